/- Part 6 of what CutStops needs: the walks of the program's functions, and plain facts. -/
import Derived.Test.YtmlmnmkhigjaaaaGreatCutStopsM5
import Derived.Shelf.SlSortCmp.NoneTotal
import Derived.Shelf.SlicesQ.Equal
import Derived.Shelf.SlicesE.Equal
import Derived.Shelf.SlicesE.IndexFunc
import Derived.Shelf.SlicesE.DeleteFunc
import Derived.Shelf.Sort.Plain
import Derived.Test.YtmlmnmkhigjaaaaGreatProg
import Derived.Sort.OwnSortedInts
import Derived.Laws.OwnMore
import Derived.Handy
import Derived.StillTail
import Derived.Deep.Cut
set_option linter.unusedSimpArgs false
set_option linter.unusedVariables false
set_option linter.unnecessarySimpa false
namespace Go.Proofs.YtmlmnmkhigjaaaaGreat
set_option maxRecDepth 100000
set_option maxHeartbeats 8000000
section
open Go.RowKit
attribute [local go_sem ↓] Go.wp_at_zero Go.wp_at_succ
attribute [local go_sem] str_len
theorem rright_calls (v : Value) (ts : List (List UInt8)) (hl : ts.length ≤ 50000) (w : World) (h : Rk w 1 v ts.length (ts.map strOf)) :
    Calls Tryz.prog 185 #[v] w fun e w'=>e= .returned (.bool (refRight ts))∧Below w.heap.size w w':=by
  obtain ⟨R,hR⟩: ∃R,refRight ts=R:=⟨_,rfl⟩
  rw [hR]
  have HR:=Lib.hid hR;clear hR
  have HK:=Lib.hid h
  obtain ⟨h1,A,cap,rfl,h2⟩:=h
  clear h1 h2
  go_enter Tryz.func185,Tryz.ntmps185
  go_wp2_with fail
  go_loopg [3] ts.length (fun k p wr=> ∃i:Nat,p= .int .i64 (i:Int)∧i+k=ts.length∧Hid (((ts.drop i).all (fun t=>decide (t.length≤40))&&decide (ts.length≤10))=R)∧Below w.heap.size w wr)
  case atStart=>exact ⟨0,rfl,by omega,HR,Below.refl _ _⟩
  case round=>
    obtain ⟨i,rfl,hk,Hl,hB⟩:=hrel
    by_cases hlt:i<ts.length
    · obtain ⟨k,rfl⟩: ∃k,gk=k+1:=⟨gk - 1,by omega⟩
      have hrk:=HK.out.below hB
      obtain ⟨t,ht⟩:=at_some hlt
      have hl2:=Hl.out
      rw [drop_at ht,List.all_cons] at hl2
      obtain ⟨h1,A',cap',hv,h2⟩:=hrk
      obtain ⟨g,cs,T,rfl,kg,hcs⟩:=h2 (by omega)
      obtain ⟨rfl, -,rfl⟩:=Value.slice.inj hv
      have hci:cs[i]? =some (strOf t):=by rw [hcs i (by omega),List.getElem?_map,ht];rfl
      have n1:decide ((i:Int)<(ts.length:Int))=true:=by simpa using hlt
      have n2:(i:Int)<(ts.length:Int):=by omega
      have e3:wrap64 ((i:Int)+1)=(i:Int)+1:=IntWalk.wrap64_in _ (by omega)
      have c_kg:=f3 kg;have l_kgwr:=lt_of kg
      by_cases h40:t.length≤40
      · have d1:decide ((40:Int)<(t.length:Int))=false:=by simp;omega
        rw [decide_eq_true h40,Bool.true_and] at hl2
        have HL:=Lib.hid hl2
        clear hl2 h40 ht hv h1 h2 hcs Hl
        go_wp2_with fail
        go_roundg k
        case measure=>omega
        case rel=>exact ⟨i+1,by first|rfl|(rw [e3];rfl),by omega,HL,hB⟩
      · have d1:decide ((40:Int)<(t.length:Int))=true:=by simp;omega
        rw [decide_eq_false h40] at hl2
        simp only [Bool.false_and] at hl2
        have HL:=Lib.hid hl2
        clear hl2 h40 ht hv h1 h2 hcs Hl
        go_wp2_with fail
        go_ret
        exact ⟨by rw [←HL.out];rfl,hB⟩
    · have hi:i=ts.length:=by omega
      have hl2:=Hl.out
      rw [hi,List.drop_length,List.all_nil,Bool.true_and] at hl2
      have HL:=Lib.hid hl2
      have n1:decide ((i:Int)<(ts.length:Int))=false:=by simpa using hlt
      clear hl2 Hl
      go_wp2_with fail
      go_ret
      exact ⟨by rw [←HL.out];first|rfl|(show Ending.returned (Value.bool (decide ((ts.length:Int)≤10)))=_;congr 2;exact decide_eq_decide.2 (by omega)),hB⟩
def Rd2 (w:World) (v:Value) (ds:List (Int×List UInt8)):Prop:=
  ∃A cap,v= .slice A ds.length cap∧(0<ds.length→ ∃ad,A=some ad∧ad.block<w.heap.size∧ ∀i d,ds[i]? =some d→(ad.add (i*2)).block<w.heap.size∧w.cell? (ad.add (i*2))=some (.int .i64 d.1)∧w.cell? ⟨(ad.add (i*2)).block,(ad.add (i*2)).off+1,none⟩=some (strOf d.2))
theorem Rd2.below {w w':World} {v:Value} {ds:List (Int×List UInt8)} (h:Rd2 w v ds) (hb:Below w.heap.size w w'):Rd2 w' v ds:=by
  obtain ⟨A,cap,rfl,h2⟩:=h
  refine ⟨A,cap,rfl,fun hn=> ?_⟩
  obtain ⟨ad,rfl,hg,hc⟩:=h2 hn
  refine ⟨ad,rfl,Nat.lt_of_lt_of_le hg hb.size,fun i d hd=> ?_⟩
  obtain ⟨h0,h1,h2⟩:=hc i d hd
  exact ⟨Nat.lt_of_lt_of_le h0 hb.size,(hb.cell h0).trans h1,(hb.cell (by exact h0)).trans h2⟩
theorem texts_calls (v : Value) (ds : List (Int × List UInt8)) (hl : ds.length ≤ 50000) (w : World) (h : Rd2 w v ds) :
    Calls Tryz.prog 41 #[v] w fun e w'=> ∃v',e= .returned v'∧w'.ownsRow w.heap.size 9 1 v' ds.length ((ds.map (·.2)).map strOf)∧Below w.heap.size w w':=by
  have HK:=Lib.hid h
  obtain ⟨A,cap,rfl,h2⟩:=h
  clear h2
  go_enter Tryz.func41,Tryz.ntmps41
  go_wp2_with fail
  go_loopg [3,4] ds.length (fun k p q wr=> ∃i:Nat,q= .int .i64 (i:Int)∧i+k=ds.length∧Hid (wr.ownsRow w.heap.size 9 1 p i (((ds.take i).map (·.2)).map strOf))∧Hid (Below w.heap.size w wr))
  case atStart=>exact ⟨0,rfl,by omega,Lib.hid (own_nil _ _ _ _),Lib.hid (Below.refl _ _)⟩
  case round=>
    obtain ⟨i,rfl,hk,Hown,HB⟩:=hrel
    by_cases hlt:i<ds.length
    · obtain ⟨k,rfl⟩: ∃k,gk=k+1:=⟨gk - 1,by omega⟩
      obtain ⟨d,hd⟩:=at_some hlt
      obtain ⟨A',cap',hv,h2⟩:=HK.out.below HB.out
      obtain ⟨ad,rfl,hg,hc⟩:=h2 (by omega)
      obtain ⟨rfl, -,rfl⟩:=Value.slice.inj hv
      obtain ⟨-,c1,c2⟩:=hc i d hd
      have n1:decide ((i:Int)<(ds.length:Int))=true:=by simpa using hlt
      have n2:(i:Int)<(ds.length:Int):=by omega
      have e3:wrap64 ((i:Int)+1)=(i:Int)+1:=IntWalk.wrap64_in _ (by omega)
      have htake:Hid (((ds.take (i+1)).map (·.2)).map strOf=((ds.take i).map (·.2)).map strOf++[strOf d.2]):=Lib.hid (by
        rw [List.take_succ_eq_append_getElem hlt,List.map_append,List.map_append,(List.getElem_eq_iff hlt).2 hd];rfl)
      have hw0:=HB.out.size
      clear h2 hc hv hd
      replace c2:wr.cell? ⟨(ad.add (i*2)).block,(ad.add (i*2)).off+1,none⟩=some (.string ⟨d.2.toArray⟩):=c2
      go_wp2_with (at_builtin;refine wpList_push _ (by rfl) _ _ 75 (by rfl) (w.heap.size) 9 (.string ⟨#[]⟩) 1 16 Tryz.underlying75 (by kernel_rfl) (by rfl) (by omega) _ _ _ (by rfl) Hown.out _ (by rfl) (by rfl) (by simp [Value.oneCell',strOf]) (by unfold maxLen;omega) (by omega) (by omega) ?_;intro g_W c_W W5 hown_W hlow_W hlt_W)
      go_wp2_with fail
      go_roundg k
      case measure=>omega
      case rel=>exact ⟨i+1,by first|rfl|(rw [e3];rfl),by omega,Lib.hid (by rw [htake.out];exact hown_W),Lib.hid (low_step HB.out (Nat.le_refl _) hlow_W)⟩
    · have hi:i=ds.length:=by omega
      have n1:decide ((i:Int)<(ds.length:Int))=false:=by simpa using hlt
      have hown:=Hown.out
      rw [hi,List.take_length] at hown
      have HO:=Lib.hid hown
      clear hown Hown
      go_wp2_with fail
      go_ret
      exact ⟨u3,rfl,HO.out,HB.out⟩
end
section
open Go.RowKit
def Rds (w:World) (A:Option Addr) (n size:Nat) (xs:List Value):Prop:=
  xs.length=n*size∧(0<n→ ∃ad,A=some ad∧ad.block<w.heap.size∧ ∀j u,xs[j]? =some u→w.cell? (ad.add j)=some u)
theorem Rds.below {w w':World} {A:Option Addr} {n size:Nat} {xs:List Value} (h:Rds w A n size xs) (hb:Below w.heap.size w w'):Rds w' A n size xs:=
  ⟨h.1,fun hn=>by
    obtain ⟨ad,e,hl,hc⟩:=h.2 hn
    exact ⟨ad,e,Nat.lt_of_lt_of_le hl hb.size,fun j u hu=>(hb.cell (by rw [block_of_add];exact hl)).trans (hc j u hu)⟩⟩
theorem add_zero_off (g j:Nat):(⟨g,0,none⟩:Addr).add j=⟨g,j,none⟩:=by unfold Addr.add;split<;>simp_all
theorem Rds.of_own {w:World} {base cap:Nat} {A:Option Addr} {e:TypeId} {size n:Nat} {xs:List Value} (h:w.ownsRow base e size (.slice A n cap) n xs):Rds w A n size xs:=by
  refine ⟨h.1,fun hn=> ?_⟩
  obtain ⟨-,A',cap',hv,h2⟩:=Rx.of_own h
  obtain ⟨g,rfl,hg,hc⟩:=h2 hn
  obtain ⟨rfl, -,rfl⟩:=Value.slice.inj hv
  refine ⟨_,rfl,hg,fun j u hu=> ?_⟩
  rw [add_zero_off,hc j (by have:=(List.getElem?_eq_some_iff.1 hu).1;have:=h.1;omega)]
  exact hu
theorem Rds.part {w:World} {A:Option Addr} {n size:Nat} {xs:List Value} (h:Rds w A n size xs) (k:Nat) (hk:k≤n):Rds w A k size (xs.take (k*size)):=by
  have hm:k*size≤n*size:=Nat.mul_le_mul_right _ hk
  refine ⟨by have:=h.1;simp;omega,fun h0=> ?_⟩
  obtain ⟨ad,e,hl,hc⟩:=h.2 (by omega)
  refine ⟨ad,e,hl,fun j u hu=>hc j u ?_⟩
  simp only [List.getElem?_take] at hu
  split at hu
  · exact hu
  · cases hu
theorem Rds.behind {w:World} {A A':Option Addr} {n size:Nat} {xs:List Value} (h:Rds w A n size xs) (k m:Nat) (hk:k≤n) (hm:m=n - k) (hA:k<n→A'=A.map (·.add (k*size))):Rds w A' m size (xs.drop (k*size)):=by
  subst hm
  have hm:k*size≤n*size:=Nat.mul_le_mul_right _ hk
  refine ⟨by have:=h.1;rw [List.length_drop,this,Nat.sub_mul],fun h0=> ?_⟩
  obtain ⟨ad,e,hl,hc⟩:=h.2 (by omega)
  refine ⟨ad.add (k*size),by rw [hA (by omega),e];rfl,by rw [block_of_add];exact hl,fun j u hu=> ?_⟩
  have:=hc (k*size+j) u (by rw [List.getElem?_drop] at hu;exact hu)
  rw [←this]
  congr 1
  generalize k*size=q
  obtain ⟨bb,oo,pp⟩:=ad
  unfold Addr.add
  rcases Nat.eq_zero_or_pos q with rfl|h1
  · simp
  · rcases Nat.eq_zero_or_pos j with rfl|h2
    · simp
    · rw [if_neg (by omega),if_neg (by omega),if_neg (by omega)]
      cases pp<;>simp<;>omega
theorem rds_one (w:World) (cs:Array Value) (e:TypeId) (size:Nat) (hs:cs.size=size):Rds (w.alloc (.cells cs e)) (some ⟨w.heap.size,0,none⟩) 1 size cs.toList:=by
  refine ⟨by simp [hs],fun _=>⟨_,rfl,by simp,fun j x hx=> ?_⟩⟩
  rw [add_zero_off,cells_of (blk_new w (.cells cs e) w.heap.size rfl) j]
  simpa using hx
theorem step_moreN {P : Program} {ops : Array Oper} {o : Oper} {a : Act} {K : Act → World → Prop} {Q : Exit → Act → World → Prop} {E : Prop} {w : World} (hwant : Region.wanted o (yielded ops a.tmps) = true) (s x : Operand) (t : TypeId)
    (ho:o.op= .call {callee:= .builtin .append,args:= #[s,x],argTypes:= #[t,t]})
    {base:Nat} {e:TypeId} (z:Value) (size bytes:Nat) (hsz:0<size) (ht:P.underlying t=some (.slice e)) (hi:(P.info? e).map (fun i=>(i.zero,i.size,i.bytes))=some (some z,size,bytes)) (hzs:z.cells.size=size)
    {v:Value} {n:Nat} {xs:List Value} (hs:a.eval s=v) (hown:w.ownsRow base e size v n xs)
    {A:Option Addr} {m c:Nat} {news:List Value} (hx:a.eval x= .slice A m c) (hr:Rds w A m size news) (h1: ∀u∈news,u.oneCell'=true)
    {nm:Nat} (hnm:nm=n+m) (h63:nm≤60000) (hby:bytes≤60000) (hbase:base≤w.heap.size)
    (h: ∀A' c' w',w'.ownsRow base e size (.slice A' nm c') nm (xs++news)→Below base w w'→(∀B,B≤w.heap.size→(∀k,v.ownBlock=some k→B≤k)→Below B w w')→K (a.put o.dst (.slice A' nm c')) w'):
    if Region.wanted o (yielded ops a.tmps)=true then Oper.wp P o a w K Q else E:=by
  subst hnm
  rw [if_pos hwant]
  have hb:(n+m)*bytes≤140737488355328:=Nat.le_trans (Nat.mul_le_mul h63 hby) (by omega)
  obtain ⟨i0,hi0,hz0,hz1,hz2⟩:=info_parts hi
  have key: ∃v' w',(Builtin.append_ #[t,t] o.type #[v, .slice A m c]).run P w= .ok v' w'∧w'.ownsRow base e size v' (n+m) (xs++news)∧Below base w w'∧(∀B,B≤w.heap.size→(∀k,v.ownBlock=some k→B≤k)→Below B w w'):=by
    rcases A with _|ad
    · have h0 : m = 0 := by
        rcases Nat.eq_zero_or_pos m with h0|h0
        · exact h0
        · obtain ⟨ad,h,_⟩:=hr.2 h0
          cases h
      subst h0
      have hn:news=[]:=List.eq_nil_of_length_eq_zero (by have:=hr.1;omega)
      subst hn
      refine ⟨v,w,?_,by simpa using hown,Below.refl _ _,fun B _ _=>Below.refl _ _⟩
      rcases hown.2 with ⟨rfl,rfl⟩|⟨g,cap,cur,rfl,_,_,hnc,_⟩
      · simp [Builtin.append_,run_underlying ht,sizeOf,typeInfo,hi0,Builtin.lenOf,Builtin.firstCells]
      · simp [Builtin.append_,run_underlying ht,sizeOf,typeInfo,hi0,Builtin.lenOf,Builtin.firstCells,hnc,storeCells]
    · have hc : ∀ j u, news[j]? = some u → w.cell? (ad.add j) = some u := by
        intro j u hu
        rcases Nat.eq_zero_or_pos m with h0|h0
        · subst h0
          have hn:news=[]:=List.eq_nil_of_length_eq_zero (by have:=hr.1;omega)
          subst hn
          simp at hu
        · obtain ⟨ad',h,_,hc⟩:=hr.2 h0
          injection h with h
          subst h
          exact hc j u hu
      obtain ⟨v',w',hrun,h2,hg,_,h5⟩:=run_append_own_at (P:=P) w base t o.type e i0 z size bytes ht hi0 hz0 hz1 hz2 hzs hsz v n xs hown ad m c news (by simpa using hr.1) hc h1 (by unfold maxLen;omega) hb hbase
      refine ⟨v',w',hrun,h2,(Below.refl base w).grown hg hbase fun k hk=> ?_,fun B hB hk=>(Below.refl B w).grown hg hB hk⟩
      rcases hown.2 with ⟨rfl,_⟩|⟨g',cap',cur,rfl,hge,_⟩
      · simp [Value.ownBlock] at hk
      · simp [Value.ownBlock] at hk;omega
  obtain ⟨v',w',hrun,h2,h3,h4⟩:=key
  obtain ⟨-,A',c',rfl, -⟩:=Rx.of_own h2
  unfold Oper.wp execOp
  simp only [ho,resolve,invoke,builtin,Sem.run_bind,Sem.run_pure,Result.andThen_ok,List.map_toArray,List.map_cons,List.map_nil,hs,hx,hrun]
  exact h A' c' w' h2 h3 h4
theorem own_cap {w:World} {base n cap size:Nat} {A:Option Addr} {e:TypeId} {xs:List Value} (h:w.ownsRow base e size (.slice A n cap) n xs):n≤cap:=by
  rcases h.2 with ⟨hv,h0⟩|⟨g,cap',cur,hv,hg,hc,hcap, -⟩
  · omega
  · obtain ⟨-, -,rfl⟩:=Value.slice.inj hv;exact hcap
abbrev HeldB (W v:World):Prop:=Below W.heap.size W v∧(W.heap.size≤v.heap.size)∧ ∀b o,b<W.heap.size→v.cell? ⟨b,o,none⟩=W.cell? ⟨b,o,none⟩
theorem HeldB.of {W v:World} (h:Below W.heap.size W v):HeldB W v:=⟨h,h.size,(bcell h).1⟩
theorem HeldB.start (W:World):HeldB W W.drew:=HeldB.of (Below.refl _ _).drew
theorem HeldB.low {W u v:World} (h:HeldB W u) (hb:Below W.heap.size u v):HeldB W v:=HeldB.of (h.1.trans hb)
theorem HeldB.call {W u v:World} (h:HeldB W u) (hb:Below u.heap.size u v):HeldB W v:=HeldB.of (h.1.trans (hb.mono h.2.1))
theorem HeldB.alloc {W u:World} (h:HeldB W u) (o:Obj):HeldB W (u.alloc o):=HeldB.of (h.1.alloc h.2.1 o)
def rowCells (l:List (Nat×Nat)):List Value:=itemCells (rowInts l)
end
section
open Go.RowKit
theorem fr_below {w W1 W2:World} {O O':Nat→Prop} (hb:Below w.heap.size w W1) (hF:Fr noX O O' W1 W2) (hO: ∀b,O b→w.heap.size≤b):Below w.heap.size w W2:=
  ⟨hF.os.trans hb.os,hF.tape.trans hb.tape,hF.output.trans hb.output,Nat.le_trans hb.size hF.size,fun k hk=>(hF.block k (Nat.lt_of_lt_of_le hk hb.size) (fun h=>by have:=hO k h;omega) (fun h=>h)).trans (hb.block k hk)⟩
theorem Fr.below_own {w0 W W':World} {X O O':Nat→Prop} (hF:Fr X O O' W W') (hb:Below w0.heap.size w0 W) (hO: ∀c,O c→w0.heap.size≤c) (hX: ∀c,X c→w0.heap.size≤c):Below w0.heap.size w0 W':=
  ⟨hF.os.trans hb.os,hF.tape.trans hb.tape,hF.output.trans hb.output,Nat.le_trans hb.size hF.size,fun k hk=>(hF.block k (Nat.lt_of_lt_of_le hk hb.size) (fun h=>by have:=hO k h;omega) (fun h=>by have:=hX k h;omega)).trans (hb.block k hk)⟩
theorem rd2_box {V:World} {g:Nat} {id:Int} {t:List UInt8} {T:TypeId} (hk:V.heap[g]? =some (.cells #[.int .i64 id,strOf t] T (0,0))):Rd2 V (.slice (some ⟨g,0,none⟩) ([(id,t)]:List (Int×List UInt8)).length 1) [(id,t)]:=by
  refine ⟨_,_,rfl,fun _=>⟨_,rfl,lt_of hk,fun i d hd=> ?_⟩⟩
  obtain rfl:i=0:=by have:=(List.getElem?_eq_some_iff.1 hd).1;simp at this;omega
  obtain rfl:(id,t)=d:=by simpa using hd
  refine ⟨by rw [block_of_add];exact lt_of hk,?_,?_⟩
  · rw [show (0*2:Nat)=0 from rfl,add_zero_off,cells_of hk];rfl
  · rw [show (0*2:Nat)=0 from rfl,add_zero_off,cells_of hk];rfl
structure St (w0 W:World) (ap:Value) (s:Ar) (L:List (Nat×Obj)):Prop where
  ex: ∃O,AP W ap s O∧(∀b,O b→w0.heap.size≤b)∧ ∀x∈L,W.heap[x.1]? =some x.2∧ ¬O x.1
  bel:Below w0.heap.size w0 W
section
variable {w0 W W' : World} {ap : Value} {s s' : Ar} {L : List (Nat × Obj)}
theorem St.below (h:St w0 W ap s L) (hb:Below W.heap.size W W'):St w0 W' ap s L:=by
  obtain ⟨O,hA,hO,hL⟩:=h.ex
  exact ⟨⟨O,hA.below hb,hO,fun x hx=>⟨keep_blk hb (hL x hx).1,(hL x hx).2⟩⟩,below_step h.bel hb⟩
theorem St.did (h:St w0 W ap s L) {O':Nat→Prop} (hex: ∃O,AP W ap s O∧(∀b,O b→w0.heap.size≤b)∧(∀x∈L,W.heap[x.1]? =some x.2∧ ¬O x.1)∧AP W' ap s' O'∧Fr noX O O' W W'):St w0 W' ap s' L:=by
  obtain ⟨O,hA,hO,hL,hA',hF⟩:=hex
  refine ⟨⟨O',hA',fun b hb=> ?_,fun x hx=>⟨hF.keep (hL x hx).1 (hL x hx).2 (fun h=>h),fun hb=> ?_⟩⟩,fr_below h.bel hF hO⟩
  · rcases hF.own b hb with h1|h1
    · exact hO b h1
    · have:=h.bel.size;omega
  · rcases hF.own _ hb with h1|h1
    · exact (hL x hx).2 h1
    · have:=lt_of (hL x hx).1;omega
theorem St.new {O:Nat→Prop} (hb:Below w0.heap.size w0 W) (hA:AP W ap s O) (hO: ∀b,O b→w0.heap.size≤b):St w0 W ap s []:=⟨⟨O,hA,hO,fun _ h=>by cases h⟩,hb⟩
theorem St.box (h:St w0 W ap s L) (o:Obj) (hv:W'=W.alloc o):St w0 W' ap s ((W.heap.size,o)::L):=by
  subst hv
  have hb:=below_box W o
  obtain ⟨O,hA,hO,hL⟩:=h.ex
  refine ⟨⟨O,hA.below hb,hO,fun x hx=> ?_⟩,below_step h.bel hb⟩
  rcases List.mem_cons.1 hx with rfl|hx
  · exact ⟨blk_new _ _ _ rfl,hA.new (Nat.le_refl _)⟩
  · exact ⟨keep_blk hb (hL x hx).1,(hL x hx).2⟩
theorem St.less (h:St w0 W ap s L) {L':List (Nat×Obj)} (hs: ∀x∈L',x∈L):St w0 W ap s L':=by
  obtain ⟨O,hA,hO,hL⟩:=h.ex
  exact ⟨⟨O,hA,hO,fun x hx=>hL x (hs x hx)⟩,h.bel⟩
theorem St.at (h:St w0 W ap s L) {b:Nat} {o:Obj} (hx:(b,o)∈L):W.heap[b]? =some o:=by
  obtain ⟨O, -, -,hL⟩:=h.ex
  exact (hL _ hx).1
theorem St.at0 {b:Nat} {o:Obj} (h:St w0 W ap s ((b,o)::L)):W.heap[b]? =some o:=h.at (List.mem_cons_self ..)
variable {f : FuncId} {args : Array Value} {r : Ending}
theorem St.read {P:Program} (h:St w0 W ap s L) (hc: ∀O,AP W ap s O→Calls P f args W fun e w'=>e=r∧Below W.heap.size W w'):Calls P f args W fun e w'=>e=r∧St w0 w' ap s L:=by
  obtain ⟨O,hA, -⟩:=h.ex
  exact (hc O hA).mono fun e w' ⟨he,hb⟩=>⟨he,h.below hb⟩
theorem St.same {P:Program} (h:St w0 W ap s L) (hc: ∀O,AP W ap s O→Calls P f args W fun e w'=>e=r∧W=w'):Calls P f args W fun e w'=>e=r∧St w0 w' ap s L:=by
  obtain ⟨O,hA, -⟩:=h.ex
  exact (hc O hA).mono fun e w' ⟨he,hb⟩=>⟨he,hb▸h⟩
theorem St.write {P:Program} (h:St w0 W ap s L) (hc: ∀O,AP W ap s O→Calls P f args W fun e w'=>e=r∧Did noX ap s' O W w'):Calls P f args W fun e w'=>e=r∧St w0 w' ap s' L:=by
  obtain ⟨O,hA,hO,hL⟩:=h.ex
  exact (hc O hA).mono fun e w' ⟨he,O',h1,h2⟩=>⟨he,h.did (O':=O') ⟨O,hA,hO,hL,h1,h2⟩⟩
end
end
end Go.Proofs.YtmlmnmkhigjaaaaGreat
namespace Go.Proofs
open Go.Shelf
def Tryz.laySort_ren:Go.Shelf.Ren:=⟨fun|6=>221|15=>229|14=>274|28=>286|29=>287|20=>309|21=>310|22=>311|23=>312|24=>313|25=>314|26=>315|27=>316|46=>329|47=>318|48=>319|49=>330|50=>331|57=>347|n=>n,fun|22=>131|24=>136|25=>263|3=>3|39=>270|0=>0|53=>326|55=>150|4=>4|46=>320|45=>319|50=>27|5=>5|9=>9|66=>347|70=>200|76=>358|77=>201|n=>n,fun|n=>n⟩
theorem Tryz.laySort:Go.Proofs.SlLaysF0.n6 Tryz.prog Tryz.laySort_ren:={
  mixed:=by kernel_rfl
  f6:=⟨Tryz.f221.name,by decide,Tryz.func221.trans (congrArg some (by kernel_rfl))⟩
  f14:=⟨Tryz.f274.name,by decide,Tryz.func274.trans (congrArg some (by kernel_rfl))⟩
  f15:=Tryz.func229.trans (congrArg some (by kernel_rfl))
  f20:=⟨Tryz.f309.name,by decide,Tryz.func309.trans (congrArg some (by kernel_rfl))⟩
  f21:=⟨Tryz.f310.name,by decide,Tryz.func310.trans (congrArg some (by kernel_rfl))⟩
  f22:=⟨Tryz.f311.name,by decide,Tryz.func311.trans (congrArg some (by kernel_rfl))⟩
  f23:=⟨Tryz.f312.name,by decide,Tryz.func312.trans (congrArg some (by kernel_rfl))⟩
  f24:=⟨Tryz.f313.name,by decide,Tryz.func313.trans (congrArg some (by kernel_rfl))⟩
  f25:=⟨Tryz.f314.name,by decide,Tryz.func314.trans (congrArg some (by kernel_rfl))⟩
  f26:=⟨Tryz.f315.name,by decide,Tryz.func315.trans (congrArg some (by kernel_rfl))⟩
  f27:=⟨Tryz.f316.name,by decide,Tryz.func316.trans (congrArg some (by kernel_rfl))⟩
  f28:=Tryz.func286.trans (congrArg some (by kernel_rfl))
  f29:=Tryz.func287.trans (congrArg some (by kernel_rfl))
  f46:=⟨Tryz.f329.name,by decide,Tryz.func329.trans (congrArg some (by kernel_rfl))⟩
  f47:=Tryz.func318.trans (congrArg some (by kernel_rfl))
  f48:=Tryz.func319.trans (congrArg some (by kernel_rfl))
  f49:=⟨Tryz.f330.name,by decide,Tryz.func330.trans (congrArg some (by kernel_rfl))⟩
  f50:=⟨Tryz.f331.name,by decide,Tryz.func331.trans (congrArg some (by kernel_rfl))⟩
  f57:=⟨Tryz.f347.name,by decide,Tryz.func347.trans (congrArg some (by kernel_rfl))⟩
  t0:=Tryz.underlying0
  a0:=Tryz.isAgg0
  z0:=Tryz.sizeOf0
  v0:=Tryz.zeroValue0
  t3:=Tryz.underlying3
  a3:=Tryz.isAgg3
  z3:=Tryz.sizeOf3
  v3:=Tryz.zeroValue3
  t4:=Tryz.underlying4
  a4:=Tryz.isAgg4
  z4:=Tryz.sizeOf4
  v4:=Tryz.zeroValue4
  t5:=Tryz.underlying5
  a5:=Tryz.isAgg5
  z5:=Tryz.sizeOf5
  v5:=Tryz.zeroValue5
  t9:=Tryz.underlying9
  a9:=Tryz.isAgg9
  z9:=Tryz.sizeOf9
  v9:=Tryz.zeroValue9
  t22:=Tryz.underlying131
  a22:=Tryz.isAgg131
  z22:=Tryz.sizeOf131
  v22:=Tryz.zeroValue131
  t25:=Tryz.underlying263
  a25:=Tryz.isAgg263
  z25:=Tryz.sizeOf263
  v25:=Tryz.zeroValue263
  t39:=Tryz.underlying270
  a39:=Tryz.isAgg270
  z39:=Tryz.sizeOf270
  v39:=Tryz.zeroValue270
  t45:=Tryz.underlying319
  a45:=Tryz.isAgg319
  z45:=Tryz.sizeOf319
  v45:=Tryz.zeroValue319
  t46:=Tryz.underlying320
  a46:=Tryz.isAgg320
  z46:=Tryz.sizeOf320
  v46:=Tryz.zeroValue320
  t50:=Tryz.underlying27
  a50:=Tryz.isAgg27
  z50:=Tryz.sizeOf27
  v50:=Tryz.zeroValue27
  t53:=Tryz.underlying326
  a53:=Tryz.isAgg326
  z53:=Tryz.sizeOf326
  v53:=Tryz.zeroValue326
  t55:=Tryz.underlying150
  a55:=Tryz.isAgg150
  z55:=Tryz.sizeOf150
  v55:=Tryz.zeroValue150
  t66:=Tryz.underlying347
  a66:=Tryz.isAgg347
  z66:=Tryz.sizeOf347
  v66:=Tryz.zeroValue347
  t70:=Tryz.underlying200
  a70:=Tryz.isAgg200
  z70:=Tryz.sizeOf200
  v70:=Tryz.zeroValue200
  t76:=Tryz.underlying358
  a76:=Tryz.isAgg358
  z76:=Tryz.sizeOf358
  v76:=Tryz.zeroValue358
  t77:=Tryz.underlying201
  a77:=Tryz.isAgg201
  z77:=Tryz.sizeOf201
  v77:=Tryz.zeroValue201}
def Tryz.layEqItem_ren:Go.Shelf.Ren:=⟨fun|8=>128|n=>n,fun|22=>146|24=>140|4=>4|3=>3|0=>0|n=>n,fun|n=>n⟩
theorem Tryz.layEqItem:Go.Proofs.SlLaysQ.n8 Tryz.prog Tryz.layEqItem_ren:={
  mixed:=by kernel_rfl
  f8:=⟨Tryz.f128.name,by decide,Tryz.func128.trans (congrArg some (by kernel_rfl))⟩
  t0:=Tryz.underlying0
  a0:=Tryz.isAgg0
  z0:=Tryz.sizeOf0
  v0:=Tryz.zeroValue0
  t3:=Tryz.underlying3
  a3:=Tryz.isAgg3
  z3:=Tryz.sizeOf3
  v3:=Tryz.zeroValue3
  t4:=Tryz.underlying4
  a4:=Tryz.isAgg4
  z4:=Tryz.sizeOf4
  v4:=Tryz.zeroValue4
  t22:=Tryz.underlying146
  a22:=Tryz.isAgg146
  z22:=Tryz.sizeOf146
  v22:=Tryz.zeroValue146}
def Tryz.layEqInt_ren:Go.Shelf.Ren:=⟨fun|33=>130|n=>n,fun|22=>43|23=>3|4=>4|3=>3|0=>0|n=>n,fun|n=>n⟩
theorem Tryz.layEqInt:Go.Proofs.SlLaysE.n33 Tryz.prog Tryz.layEqInt_ren:={
  mixed:=by kernel_rfl
  f33:=⟨Tryz.f130.name,by decide,Tryz.func130.trans (congrArg some (by kernel_rfl))⟩
  t0:=Tryz.underlying0
  a0:=Tryz.isAgg0
  z0:=Tryz.sizeOf0
  v0:=Tryz.zeroValue0
  t3:=Tryz.underlying3
  a3:=Tryz.isAgg3
  z3:=Tryz.sizeOf3
  v3:=Tryz.zeroValue3
  t4:=Tryz.underlying4
  a4:=Tryz.isAgg4
  z4:=Tryz.sizeOf4
  v4:=Tryz.zeroValue4
  t22:=Tryz.underlying43
  a22:=Tryz.isAgg43
  z22:=Tryz.sizeOf43
  v22:=Tryz.zeroValue43
  a23:=Tryz.isAgg3
  z23:=Tryz.sizeOf3}
def Tryz.layEqBool_ren:Go.Shelf.Ren:=⟨fun|33=>133|n=>n,fun|22=>128|23=>4|4=>4|3=>3|0=>0|n=>n,fun|n=>n⟩
theorem Tryz.layEqBool:Go.Proofs.SlLaysE.n33 Tryz.prog Tryz.layEqBool_ren:={
  mixed:=by kernel_rfl
  f33:=⟨Tryz.f133.name,by decide,Tryz.func133.trans (congrArg some (by kernel_rfl))⟩
  t0:=Tryz.underlying0
  a0:=Tryz.isAgg0
  z0:=Tryz.sizeOf0
  v0:=Tryz.zeroValue0
  t3:=Tryz.underlying3
  a3:=Tryz.isAgg3
  z3:=Tryz.sizeOf3
  v3:=Tryz.zeroValue3
  t4:=Tryz.underlying4
  a4:=Tryz.isAgg4
  z4:=Tryz.sizeOf4
  v4:=Tryz.zeroValue4
  t22:=Tryz.underlying128
  a22:=Tryz.isAgg128
  z22:=Tryz.sizeOf128
  v22:=Tryz.zeroValue128
  a23:=Tryz.isAgg4
  z23:=Tryz.sizeOf4}
def Tryz.layHasStr_ren:Go.Shelf.Ren:=⟨fun|8=>224|6=>276|n=>n,fun|22=>75|23=>9|25=>189|4=>4|3=>3|0=>0|n=>n,fun|n=>n⟩
theorem Tryz.layHasStr:Go.Proofs.SlLaysH.n8 Tryz.prog Tryz.layHasStr_ren:={
  mixed:=by kernel_rfl
  f6:=⟨Tryz.f276.name,by decide,Tryz.func276.trans (congrArg some (by kernel_rfl))⟩
  f8:=⟨Tryz.f224.name,by decide,Tryz.func224.trans (congrArg some (by kernel_rfl))⟩
  t0:=Tryz.underlying0
  a0:=Tryz.isAgg0
  z0:=Tryz.sizeOf0
  v0:=Tryz.zeroValue0
  t3:=Tryz.underlying3
  a3:=Tryz.isAgg3
  z3:=Tryz.sizeOf3
  v3:=Tryz.zeroValue3
  t4:=Tryz.underlying4
  a4:=Tryz.isAgg4
  z4:=Tryz.sizeOf4
  v4:=Tryz.zeroValue4
  t22:=Tryz.underlying75
  a22:=Tryz.isAgg75
  z22:=Tryz.sizeOf75
  v22:=Tryz.zeroValue75
  a23:=Tryz.isAgg9
  z23:=Tryz.sizeOf9
  t25:=Tryz.underlying189
  a25:=Tryz.isAgg189
  z25:=Tryz.sizeOf189
  v25:=Tryz.zeroValue189}
def Tryz.layDelInt_ren:Go.Shelf.Ren:=⟨fun|10=>150|6=>233|n=>n,fun|22=>43|23=>3|25=>123|3=>3|4=>4|0=>0|n=>n,fun|n=>n⟩
theorem Tryz.layDelInt:Go.Proofs.SlLaysH.n10 Tryz.prog Tryz.layDelInt_ren:={
  mixed:=by kernel_rfl
  f6:=⟨Tryz.f233.name,by decide,Tryz.func233.trans (congrArg some (by kernel_rfl))⟩
  f10:=⟨Tryz.f150.name,by decide,Tryz.func150.trans (congrArg some (by kernel_rfl))⟩
  t0:=Tryz.underlying0
  a0:=Tryz.isAgg0
  z0:=Tryz.sizeOf0
  v0:=Tryz.zeroValue0
  t3:=Tryz.underlying3
  a3:=Tryz.isAgg3
  z3:=Tryz.sizeOf3
  v3:=Tryz.zeroValue3
  t4:=Tryz.underlying4
  a4:=Tryz.isAgg4
  z4:=Tryz.sizeOf4
  v4:=Tryz.zeroValue4
  t22:=Tryz.underlying43
  a22:=Tryz.isAgg43
  z22:=Tryz.sizeOf43
  v22:=Tryz.zeroValue43
  a23:=Tryz.isAgg3
  z23:=Tryz.sizeOf3
  t25:=Tryz.underlying123
  a25:=Tryz.isAgg123
  z25:=Tryz.sizeOf123
  v25:=Tryz.zeroValue123}
def Tryz.laySortInt_ren:Go.Shelf.Ren:=⟨fun|189=>136|125=>229|257=>228|128=>286|129=>287|294=>277|295=>278|296=>279|297=>280|298=>281|299=>282|216=>283|300=>284|301=>285|328=>317|329=>318|330=>319|331=>320|332=>321|215=>322|343=>332|n=>n,fun|28=>43|3=>3|46=>270|0=>0|51=>326|53=>150|4=>4|183=>320|182=>319|131=>27|5=>5|9=>9|218=>347|222=>200|228=>358|229=>201|n=>n,fun|n=>n⟩
theorem Tryz.laySortInt:Go.Proofs.Lays.n189 Tryz.prog Tryz.laySortInt_ren:={
  mixed:=by kernel_rfl
  f125:=Tryz.func229.trans (congrArg some (by kernel_rfl))
  f128:=Tryz.func286.trans (congrArg some (by kernel_rfl))
  f129:=Tryz.func287.trans (congrArg some (by kernel_rfl))
  f189:=Tryz.func136.trans (congrArg some (by kernel_rfl))
  f215:=Tryz.func322.trans (congrArg some (by kernel_rfl))
  f216:=Tryz.func283.trans (congrArg some (by kernel_rfl))
  f257:=Tryz.func228.trans (congrArg some (by kernel_rfl))
  f294:=Tryz.func277.trans (congrArg some (by kernel_rfl))
  f295:=Tryz.func278.trans (congrArg some (by kernel_rfl))
  f296:=Tryz.func279.trans (congrArg some (by kernel_rfl))
  f297:=Tryz.func280.trans (congrArg some (by kernel_rfl))
  f298:=Tryz.func281.trans (congrArg some (by kernel_rfl))
  f299:=Tryz.func282.trans (congrArg some (by kernel_rfl))
  f300:=Tryz.func284.trans (congrArg some (by kernel_rfl))
  f301:=Tryz.func285.trans (congrArg some (by kernel_rfl))
  f328:=Tryz.func317.trans (congrArg some (by kernel_rfl))
  f329:=Tryz.func318.trans (congrArg some (by kernel_rfl))
  f330:=Tryz.func319.trans (congrArg some (by kernel_rfl))
  f331:=Tryz.func320.trans (congrArg some (by kernel_rfl))
  f332:=Tryz.func321.trans (congrArg some (by kernel_rfl))
  f343:=Tryz.func332.trans (congrArg some (by kernel_rfl))
  t0:=Tryz.underlying0
  a0:=Tryz.isAgg0
  z0:=Tryz.sizeOf0
  v0:=Tryz.zeroValue0
  t3:=Tryz.underlying3
  a3:=Tryz.isAgg3
  z3:=Tryz.sizeOf3
  v3:=Tryz.zeroValue3
  t4:=Tryz.underlying4
  a4:=Tryz.isAgg4
  z4:=Tryz.sizeOf4
  v4:=Tryz.zeroValue4
  t5:=Tryz.underlying5
  a5:=Tryz.isAgg5
  z5:=Tryz.sizeOf5
  v5:=Tryz.zeroValue5
  t9:=Tryz.underlying9
  a9:=Tryz.isAgg9
  z9:=Tryz.sizeOf9
  v9:=Tryz.zeroValue9
  t28:=Tryz.underlying43
  a28:=Tryz.isAgg43
  z28:=Tryz.sizeOf43
  v28:=Tryz.zeroValue43
  t46:=Tryz.underlying270
  a46:=Tryz.isAgg270
  z46:=Tryz.sizeOf270
  v46:=Tryz.zeroValue270
  t51:=Tryz.underlying326
  a51:=Tryz.isAgg326
  z51:=Tryz.sizeOf326
  v51:=Tryz.zeroValue326
  t53:=Tryz.underlying150
  a53:=Tryz.isAgg150
  z53:=Tryz.sizeOf150
  v53:=Tryz.zeroValue150
  t131:=Tryz.underlying27
  a131:=Tryz.isAgg27
  z131:=Tryz.sizeOf27
  v131:=Tryz.zeroValue27
  t182:=Tryz.underlying319
  a182:=Tryz.isAgg319
  z182:=Tryz.sizeOf319
  v182:=Tryz.zeroValue319
  t183:=Tryz.underlying320
  a183:=Tryz.isAgg320
  z183:=Tryz.sizeOf320
  v183:=Tryz.zeroValue320
  t218:=Tryz.underlying347
  a218:=Tryz.isAgg347
  z218:=Tryz.sizeOf347
  v218:=Tryz.zeroValue347
  t222:=Tryz.underlying200
  a222:=Tryz.isAgg200
  z222:=Tryz.sizeOf200
  v222:=Tryz.zeroValue200
  t228:=Tryz.underlying358
  a228:=Tryz.isAgg358
  z228:=Tryz.sizeOf358
  v228:=Tryz.zeroValue358
  t229:=Tryz.underlying201
  a229:=Tryz.isAgg201
  z229:=Tryz.sizeOf201
  v229:=Tryz.zeroValue201}
end Go.Proofs
namespace Go.Proofs.YtmlmnmkhigjaaaaGreat
set_option maxRecDepth 100000
set_option maxHeartbeats 8000000
section
open Go.RowKit
structure Pt where
  s:Ar
  src:Int
  rate:Int
  id:Int
  text:List UInt8
  p:Parts
  pos:Int
  row:Int
  begun:Bool
  over:Bool
  root:Int
def insI (x:Int):List Int→List Int
  | []=>[x]
  | y::l=>if x≤y then x::y::l else y::insI x l
def sortI:List Int→List Int
  | []=>[]
  | x::l=>insI x (sortI l)
def Pt.held (x:Pt):List Int:=if x.over then [] else (sortI [x.src,x.p.wave,x.p.marks,x.p.spots,x.p.table]).filter fun h=> !decide (h=0)
def Pt.stop (x:Pt):Pt:={x with s:=x.s.dropAll x.held,over:=true,p:=Parts.zero}
def Pt.left (x:Pt):Int:=if x.over then 0 else if x.begun then wrap64 (x.pos+2) else wrap64 ((x.text.length:Int)+3)
def Parts.at (p:Parts):Nat→Int
  | 0=>p.wave
  | 1=>p.marks
  | 2=>p.spots
  | _=>p.table
def Parts.put (p:Parts) (i:Nat) (h:Int):Parts:=
  match i with
  | 0=>{p with wave:=h}
  | 1=>{p with marks:=h}
  | 2=>{p with spots:=h}
  | _=>{p with table:=h}
def Pt.swap (x:Pt) (i:Nat) (r:Int×Int×Ar):Int×Pt:=
  if r.2.1=0 then (0,{x with s:=r.2.2.drop (x.p.at i),p:=x.p.put i r.1}) else (r.2.1,{x with s:=r.2.2})
def keepP (s:Ar) (q:Parts):Ar:=(((s.keep q.wave).keep q.marks).keep q.spots).keep q.table
def Pt.start (x:Pt):Pt:={x with s:=keepP x.s (vOf x.s x.src),p:=vOf x.s x.src,begun:=true,row:=lLen (keepP x.s (vOf x.s x.src)) (vOf x.s x.src).table}
def Pt.begin (x:Pt):Option (Int×Pt):=
  (lAll x.start.s x.start.p.table).bind fun a=>if a.length≤50000 then (tAdd x.start.s x.start.p.table x.id x.text.length).map fun r=>x.start.swap 3 r else none
def Pt.sym (x:Pt):Int:=if 0<x.pos then ((x.text.getD (x.pos - 1).toNat 0).toNat:Int)+1 else 0
def Pt.mark (x:Pt) (next:Int) (one:Bool):Option (Int×Pt):=
  (bInsert x.s x.p.marks x.row one).map fun r=>({x with s:=r.2.2,row:=next,pos:=wrap64 (x.pos - 1)}:Pt).swap 1 (r.1,r.2.1,r.2.2)
def Pt.insert (x:Pt):Option (Int×Pt):=
  (wBefore x.s x.p.wave x.sym).bind fun b=>(wRank x.s x.p.wave x.sym x.row).bind fun k=>
  (wInsert x.s x.p.wave x.row x.sym).bind fun r1=>
  if (x.swap 0 r1).1=0 then
    (if x.pos % x.rate=0 then
      (bRank (x.swap 0 r1).2.s (x.swap 0 r1).2.p.marks x.row).bind fun j=>(lInsert (x.swap 0 r1).2.s (x.swap 0 r1).2.p.spots j (x.id,x.pos)).bind fun r2=>
      if ((x.swap 0 r1).2.swap 2 r2).1=0 then ((x.swap 0 r1).2.swap 2 r2).2.mark (wrap64 (wrap64 (b+1)+k)) true
      else some ((x.swap 0 r1).2.swap 2 r2)
     else (x.swap 0 r1).2.mark (wrap64 (wrap64 (b+1)+k)) false)
  else some (x.swap 0 r1)
def Pt.asked (r:Int×Pt):Bool×Int×Pt:=if r.1=0 then (r.2.over,0,r.2) else (r.2.stop.over,r.1,r.2.stop)
def Pt.step (x:Pt):Option (Bool×Int×Pt):=
  if x.over then some (true,10,x)
  else if x.begun then
    (if 0≤x.pos then x.insert.map Pt.asked
     else some (true,(vMake x.s x.p).2.1,({x with s:=(vMake x.s x.p).2.2,root:=(vMake x.s x.p).1}:Pt).stop))
  else x.begin.map Pt.asked
def Pt.new (s:Ar) (root rate id:Int) (text:List UInt8):Pt:=⟨s.keep root,root,rate,id,text,Parts.zero,text.length,0,false,false,0⟩
end
section
open Go.RowKit Go.Sort
theorem insI_perm (x:Int): ∀l:List Int,(insI x l).Perm (x::l)
  | []=>List.Perm.refl _
  | y::l=>by
    unfold insI
    split
    · exact List.Perm.refl _
    · exact ((insI_perm x l).cons y).trans (List.Perm.swap x y l)
theorem sortI_perm: ∀l:List Int,(sortI l).Perm l
  | []=>List.Perm.refl _
  | x::l=>(insI_perm x (sortI l)).trans ((sortI_perm l).cons x)
theorem insI_sorted (x:Int): ∀{l:List Int},l.Pairwise (· ≤ ·)→(insI x l).Pairwise (· ≤ ·)
  | [],_=>by simp [insI]
  | y::l,h=>by
    unfold insI
    rw [List.pairwise_cons] at h
    split
    · rename_i hxy
      refine List.pairwise_cons.2 ⟨fun z hz=> ?_,List.pairwise_cons.2 h⟩
      rcases List.mem_cons.1 hz with rfl|hz
      · exact hxy
      · have:=h.1 z hz;omega
    · rename_i hxy
      refine List.pairwise_cons.2 ⟨fun z hz=> ?_,insI_sorted x h.2⟩
      rcases List.mem_cons.1 ((insI_perm x l).mem_iff.1 hz) with rfl|hz
      · omega
      · exact h.1 z hz
theorem sortI_sorted: ∀l:List Int,(sortI l).Pairwise (· ≤ ·)
  | []=>List.Pairwise.nil
  | x::l=>insI_sorted x (sortI_sorted l)
theorem sorted_unique: ∀{A B:List Int},A.Pairwise (· ≤ ·)→B.Pairwise (· ≤ ·)→A.Perm B→A=B
  | [],B,_,_,h=>(List.Perm.eq_nil h.symm).symm
  | x::A,[],_,_,h=>List.Perm.eq_nil h
  | x::A,y::B,h1,h2,h=>by
    rw [List.pairwise_cons] at h1 h2
    have e:x=y:=by
      have hx:x∈y::B:=h.mem_iff.1 (by simp)
      have hy:y∈x::A:=h.mem_iff.2 (by simp)
      rcases List.mem_cons.1 hx with e|e
      · exact e
      · rcases List.mem_cons.1 hy with e'|e'
        · exact e'.symm
        · have:=h1.1 y e';have:=h2.1 x e;omega
    subst e
    rw [sorted_unique h1.2 h2.2 (List.perm_cons x|>.1 h)]
theorem merge_sortI (l:List Int):(l.mergeSort fun x y=>decide (x≤y))=sortI l:=by
  refine sorted_unique ?_ (sortI_sorted l) ((List.mergeSort_perm l _).trans (sortI_perm l).symm)
  have:=List.pairwise_mergeSort (le:=fun x y:Int=>decide (x≤y)) (fun a b c h1 h2=>by simp at*;omega) (fun a b=>by simp;omega) l
  exact this.imp fun h=>by simpa using h
theorem grow_nil (w:World):Go.Sort.grow w #[]=w:=by cases w;simp [Go.Sort.grow]
def keepL (s:Ar) (l:List Int):Ar:=l.foldl Ar.keep s
theorem keep_take (s:Ar) (l:List Int) (i:Nat) (h:i<l.length):keepL s (l.take (i+1))=(keepL s (l.take i)).keep l[i]:=by
  unfold keepL
  rw [List.take_succ_eq_append_getElem h,List.foldl_append];rfl
theorem part_cell (q:Parts) (j:Nat) (h:j<[q.wave,q.marks,q.spots,q.table].length):(#[Value.int .i64 q.wave, .int .i64 q.marks, .int .i64 q.spots, .int .i64 q.table]:Array Value)[j]? =some (.int .i64 [q.wave,q.marks,q.spots,q.table][j]):=by
  have:[q.wave,q.marks,q.spots,q.table].length=4:=rfl
  rcases (show j=0∨j=1∨j=2∨j=3 by omega) with rfl|rfl|rfl|rfl<;>rfl
end
section
open Go.RowKit
def Tb.pourG:Nat→Tb→Int→Int→Bool→Option (Int×Tb)
  | 0,_,_,_,_=>none
  | k+1,t,h,small,ahead=>
    if (t.s.get h).tag=1 then
      (if lfK (t.s.get h)=true∧lfK (t.s.get small)=true then some (if ahead then (t.drops [h,small]).halves (lfB (t.s.get small)) (lfB (t.s.get h)) else (t.drops [h,small]).halves (lfB (t.s.get h)) (lfB (t.s.get small))) else none)
    else if ahead then ((t.opened h).pourG k (t.s.get h).k0 small ahead).bind fun r=>r.2.fork r.1 (t.s.get h).k1
    else ((t.opened h).pourG k (t.s.get h).k1 small ahead).bind fun r=>r.2.fork (t.s.get h).k0 r.1
def Tb.bothG (t:Tb) (x y:Int):Option (Int×Tb):=
  if t.e=0 then
    if x=0 then some (y,t) else if y=0 then some (x,t)
    else if Tb.small t.s x then t.pourG rounds y x true
    else if Tb.small t.s y then t.pourG rounds x y false
    else t.fork x y
  else some (0,t.drops [x,y])
def Tb.cutG:Nat→Tb→Int→Int→Option (Int×Tb)
  | 0,_,_,_=>none
  | k+1,t,h,i=>
    if (t.s.get h).tag=1 then (if delR (lfK (t.s.get h)) (lfB (t.s.get h)) i=[] then some (0,t) else some (t.leaf (delR (lfK (t.s.get h)) (lfB (t.s.get h)) i)))
    else if bLen t.s (t.s.get h).k0≤i then ((t.keep (t.s.get h).k0).cutG k (t.s.get h).k1 (wrap64 (i - bLen t.s (t.s.get h).k0))).bind fun r=>r.2.bothG (t.s.get h).k0 r.1
    else (t.cutG k (t.s.get h).k0 i).bind fun r=>(r.2.keep (t.s.get h).k1).bothG r.1 (t.s.get h).k1
def bDelG (s:Ar) (h i:Int):Option (Int×Int×Ar):=
  if i<0∨bLen s h≤i then some (0,3,s) else (Tb.cutG rounds ⟨s,0⟩ h i).map Tb.told
def wCutG:Nat→Ar→Int→Int→Option (Int×Int×Ar)
  | 0,s,_,_=>some (0,0,s)
  | d+1,s,h,i=>
    (bGet s (s.get h).k0 i).bind fun o=>(wAlike s (s.get h).k0 i o.1).bind fun j=>(wCutG d s ((s.get h).kid o.1) j).bind fun u=>
    if u.2.1=0 then
      (bDelG (u.2.2.keep ((s.get h).kid !o.1)) (s.get h).k0 i).bind fun r=>
      some (wMade r.2.2 ⟨3,r.1,if o.1 then (s.get h).k1 else u.1,if o.1 then u.1 else (s.get h).k2,0,0,0⟩ r.2.1)
    else some (0,u.2.1,u.2.2)
def wDelG (s:Ar) (h i:Int):Option (Int×Int×Ar):=if i<0∨wLen s h≤i then some (0,3,s) else wCutG 9 s h i
end
section
open Go.RowKit
structure Ct where
  s:Ar
  src:Int
  id:Int
  length:Int
  place:Int
  rows:List Int
  p:Parts
  owns:Bool
  over:Bool
  root:Int
def Ct.list (x:Ct):List Int:=if x.owns then [x.src,x.p.wave,x.p.marks,x.p.spots,x.p.table] else [x.src]
def Ct.held (x:Ct):List Int:=if x.over then [] else (sortI x.list).filter fun h=> !decide (h=0)
def Ct.stop (x:Ct):Ct:={x with s:=x.s.dropAll x.held,over:=true}
def Ct.left (x:Ct):Int:=if x.over then 0 else if x.owns then wrap64 ((x.rows.length:Int)+1) else wrap64 (wrap64 (wrap64 (2*x.length)+3) - x.rows.length)
def Ct.swap (x:Ct) (i:Nat) (r:Int×Int×Ar):Int×Ct:=
  if r.2.1=0 then (0,{x with s:=r.2.2.drop (x.p.at i),p:=x.p.put i r.1}) else (r.2.1,{x with s:=r.2.2})
def Ct.found (x:Ct) (next:Int):Ct:={x with rows:=x.rows++[x.place],place:=next}
def Ct.begin (x:Ct):Ct:={x with rows:=sortI x.rows,p:=vOf x.s x.src,s:=keepP x.s (vOf x.s x.src),owns:=true}
def Ct.find (x:Ct):Option Ct:=
  (vNext x.s x.src x.place).map fun n=>if (((x.found n.1).rows.length:Nat):Int)≤x.length then x.found n.1 else (x.found n.1).begin
def Ct.last (x:Ct):Int:=x.rows.getLastD 0
def Ct.less (x:Ct):Ct:={x with rows:=x.rows.dropLast}
def Ct.mark (x:Ct) (row:Int):Option (Int×Ct):=(bDelG x.s x.p.marks row).map fun r=>x.swap 1 r
def Ct.spot (x:Ct) (row:Int):Option (Int×Ct):=
  (bGet x.s x.p.marks row).bind fun m=>
  if m.1 then
    (bRank x.s x.p.marks row).bind fun j=>(lDelete x.s x.p.spots j).bind fun r=>
    if (x.swap 2 r).1=0 then (x.swap 2 r).2.mark row else some (x.swap 2 r)
  else x.mark row
def Ct.take (x:Ct):Option (Int×Ct):=
  (wDelG x.s x.p.wave x.last).bind fun r=>if (x.less.swap 0 r).1=0 then (x.less.swap 0 r).2.spot x.last else some (x.less.swap 0 r)
def Ct.asked (r:Int×Ct):Bool×Int×Ct:=if r.1=0 then (false,0,r.2) else (true,r.1,r.2.stop)
def Ct.made (r:Int×Ct):Bool×Int×Ct:=
  if r.1=0 then (true,(vMake r.2.s r.2.p).2.1,({r.2 with s:=(vMake r.2.s r.2.p).2.2,root:=(vMake r.2.s r.2.p).1}:Ct).stop) else (true,r.1,r.2.stop)
def Ct.step (x:Ct):Option (Bool×Int×Ct):=
  if x.over then some (true,10,x)
  else if x.owns=false then x.find.map fun y=>(false,0,y)
  else if x.rows=[] then (tCut x.s x.p.table x.id).map fun r=>Ct.made (x.swap 3 r)
  else x.take.map Ct.asked
def Ct.new (s:Ar) (root id length place:Int):Ct:=⟨s.keep root,root,id,length,place,[],Parts.zero,false,false,0⟩
end
section
open Go.RowKit Go.Sort
attribute [local go_sem ↓] Go.wp_at_zero Go.wp_at_succ
attribute [local go_sem] lt_s2 lt_s3 lt_s4 str_len
structure CB (w:World) (tb:Nat) (ap:Value) (x:Ct) (O:Nat→Prop) (A:Option Addr) (cap:Nat):Prop where
  hA:AP w ap x.s O
  blk:w.heap[tb]? =some (.cells #[ap, .int .i64 x.src, .int .i64 x.id, .int .i64 x.length, .int .i64 x.place, .slice A x.rows.length cap, .int .i64 x.p.wave, .int .i64 x.p.marks, .int .i64 x.p.spots, .int .i64 x.p.table, .bool x.owns, .bool x.over, .int .i64 x.root] 197 (0,0))
  no: ¬O tb
structure RB (w:World) (tb:Nat) (l:List Int) (O:Nat→Prop) (A:Option Addr) (cap:Nat):Prop where
  own:w.ownsRow 0 3 1 (.slice A l.length cap) l.length (l.map (Value.int .i64))
  no: ∀a,A=some a→ ¬O a.block∧a.block≠tb
def DidC (tb:Nat) (ap:Value) (x':Ct) (O:Nat→Prop) (A:Option Addr) (cap:Nat) (w w':World):Prop:= ∃O',CB w' tb ap x' O' A cap∧Fr (oneX tb) O O' w w'
theorem didc_gen {tb:Nat} {ap:Value} {x':Ct} {O:Nat→Prop} {A:Option Addr} {cap:Nat} {w w':World} (h: ∀v,v=w'→DidC tb ap x' O A cap w v):DidC tb ap x' O A cap w w':=h w' rfl
variable {ap : Value} {O : Nat → Prop} {tb : Nat} {x : Ct} {A : Option Addr} {cap : Nat}
theorem cRoot_calls (w : World) (hT : CB w tb ap x O A cap) :
    Calls Tryz.prog 55 #[.pointer (some ⟨tb,0,none⟩)] w fun e w'=>e= .returned (.int .i64 x.root)∧w=w':=by
  go_enter Tryz.func55,Tryz.ntmps55
  have kt:=hT.blk
  have c_kt:=f3 kt;have l_ktw:=lt_of kt
  go_wp2_with fail
  go_ret
  exact ⟨rfl,rfl⟩
theorem cLeft_calls (w : World) (hT : CB w tb ap x O A cap) :
    Calls Tryz.prog 59 #[.pointer (some ⟨tb,0,none⟩)] w fun e w'=>e= .returned (.int .i64 x.left)∧Below w.heap.size w w':=by
  have kt:=hT.blk
  unfold Ct.left
  cases hov:x.over with
  | true=>
    rw [hov] at kt
    go_enter Tryz.func59,Tryz.ntmps59
    have c_kt:=f3 kt;have l_ktw:=lt_of kt
    go_wp2_with fail
    go_ret
    exact ⟨rfl,Below.refl _ _⟩
  | false=>
    rw [hov] at kt
    cases hb:x.owns with
    | true=>
      rw [hb] at kt
      go_enter Tryz.func59,Tryz.ntmps59
      have c_kt:=f3 kt;have l_ktw:=lt_of kt
      go_wp2_with fail
      go_ret
      exact ⟨rfl,Below.refl _ _⟩
    | false=>
      rw [hb] at kt
      go_enter Tryz.func59,Tryz.ntmps59
      have c_kt:=f3 kt;have l_ktw:=lt_of kt
      go_wp2_with fail
      refine wg fun V hV_V=> ?_
      have hB:=Below.refl w.heap.size w
      refine neb1 hV_V hB kt ?_;clear hB kt c_kt;intro z_V hB kt c_kt
      clear hV_V
      refine dr (fun v=>Sm v V (tb)∧(V.heap.size≤v.heap.size)∧True) ⟨fun _=>rfl,Nat.le_refl _,trivial⟩ fun Vd hV_Vd hHeld=> ?_
      have v_kt:=c_kt.1
      refine neb1 hV_Vd hB kt ?_;clear hB kt c_kt;intro z_Vd hB kt c_kt
      clear hV_Vd
      refine ta 0 hHeld ?_
      refine ta 1 hHeld ?_
      refine ta 2 hHeld ?_
      refine ta 3 hHeld ?_
      refine ta 4 hHeld ?_
      refine ta 5 hHeld ?_
      refine ta 6 hHeld ?_
      refine ta 7 hHeld ?_
      refine ta 8 hHeld ?_
      refine ta 9 hHeld ?_
      refine ta 10 hHeld ?_
      refine ta 11 hHeld ?_
      refine rd 12 rfl fun K hK=> ?_
      go_simp
      refine ho hK hHeld fun hHeld=> ?_
      clear hK K
      refine wd ?_
      go_wp2_with fail
      go_ret
      exact ⟨rfl,hB⟩
theorem own_holds {w:World} {base g cap:Nat} {zs:List Int} (h:w.ownsRow base 3 1 (.slice (some ⟨g,0,none⟩) zs.length cap) zs.length (zs.map (Value.int .i64))):Holds (Value.int .i64) w g 0 zs.toArray:=fun j hj=>by
  have hj':j<zs.length:=by simpa using hj
  rw [Nat.zero_add]
  refine ⟨?_,h.frozenAt j⟩
  rw [h.cellAt j (by omega)]
  simp [hj']
theorem own_parts {w:World} {base g cap n:Nat} {e:TypeId} {xs:List Value} (h:w.ownsRow base e 1 (.slice (some ⟨g,0,none⟩) n cap) n xs): ∃cur,base≤g∧w.heap[g]? =some (.cells cur e (0,0))∧n≤cap∧cap≤maxLen∧cur.size=cap*1∧cur.toList.take (n*1)=xs:=by
  rcases h.2 with ⟨hv, -⟩|⟨g',cap',cur,hv,r⟩
  · simp at hv
  · simp only [Value.slice.injEq,Option.some.injEq,Addr.mk.injEq,and_true,true_and] at hv
    obtain ⟨rfl,rfl⟩:=hv
    exact ⟨cur,r⟩
theorem sortOwn_calls (base g cap : Nat) (zs : List Int) (w : World) (h : w.ownsRow base 3 1 (.slice (some ⟨g, 0, none⟩) zs.length cap) zs.length (zs.map (Value.int .i64))) (hl : zs.length ≤ 1000) :
    Calls Tryz.prog 136 #[.slice (some ⟨g,0,none⟩) zs.length cap] w fun e w'=>e= .returned (.tuple #[])∧w.grownBy w' (some g)∧w'.ownsRow base 3 1 (.slice (some ⟨g,0,none⟩) zs.length cap) zs.length ((sortI zs).map (Value.int .i64)):=by
  obtain ⟨cur,hb,hk,h1,h2,h3, -⟩:=own_parts h
  refine Calls.mono (Any.slices_Sort_int Tryz.laySortInt g 0 cap zs w (own_holds h) (lt_of hk) (by omega)) ?_
  rintro e w' ⟨rfl,n,os,rfl⟩
  rw [merge_sortI]
  exact ⟨rfl,grownBy_sortedI _,ownsRow_sortedI (sortI_perm zs).length_eq hb hk h1 h2 h3⟩
theorem zeroC_gives (W:World) (x:Int):FnGives Tryz.prog 157 #[] #[.int .i64 x] (.bool (decide (x=0))) W:=by
  show Calls Tryz.prog 157 #[.int .i64 x] W _
  go_enter Tryz.func157,Tryz.ntmps157
  go_wp2
  go_ret
  exact ⟨rfl,0,rfl⟩
theorem delOwn_calls (base g cap : Nat) (zs : List Int) (w : World) (h : w.ownsRow base 3 1 (.slice (some ⟨g, 0, none⟩) zs.length cap) zs.length (zs.map (Value.int .i64))) (hl : zs.length ≤ 1000) :
    Calls Tryz.prog 150 #[.slice (some ⟨g,0,none⟩) zs.length cap, .func (.func 157) #[] #[]] w fun e w'=>e= .returned (.slice (some ⟨g,0,none⟩) (zs.filter fun h=> !decide (h=0)).length cap)∧w.grownBy w' (some g)∧
      w'.ownsRow base 3 1 (.slice (some ⟨g,0,none⟩) (zs.filter fun h=> !decide (h=0)).length cap) (zs.filter fun h=> !decide (h=0)).length ((zs.filter fun h=> !decide (h=0)).map (Value.int .i64)):=by
  obtain ⟨cur,hb,hk,h1,h2,h3, -⟩:=own_parts h
  have eg: ∀args w,(callFunc 157 args).run Tryz.prog w= .ok (.enter 157 args) w:=enters_of Tryz.func157 (by kernel_rfl) rfl
  have hcon:=AnyE.slices_DeleteFunc Tryz.layDelInt (Value.int .i64) (fun _=>rfl) (fun x=>decide (x=0)) 157 #[] eg 0 (fun w=>by kernel_rfl) g 0 cap zs.toArray w (fun W x _=>zeroC_gives W x) (fun n os dk x _=>zeroC_gives _ x) (own_holds h) (by simp;omega) (by simpa using h1)
  have hsz:zs.toArray.size=zs.length:=by simp
  have htl:zs.toArray.toList=zs:=rfl
  rw [hsz,htl] at hcon
  refine Calls.mono hcon ?_
  rintro e w' ⟨rfl,q,rfl⟩
  have hfl:=List.length_filter_le (fun x:Int=> !decide (x=0)) zs
  obtain ⟨ts,hts⟩: ∃ts,ts=(zs.filter fun x=> !decide (x=0))++List.replicate (zs.length - (zs.filter fun x=> !decide (x=0)).length) 0:=⟨_,rfl⟩
  have htl:ts.length=zs.length:=by rw [hts];simp;omega
  rw [←hts]
  have hgr:w.grownBy (putRow (Value.int .i64) (Go.Sort.ahead w q) g 0 ts.toArray) (some g):=by
    rw [←grow_nil (putRow _ _ _ _ _)];exact grownBy_sortedI _
  refine ⟨rfl,hgr,by simp, .inr ⟨g,cap,_,rfl,hb,by rw [←grow_nil (putRow _ _ _ _ _)];exact heap_sortedI _ hk,by omega,h2,by simp [putCells,h3],?_⟩⟩
  have hlt:=take_putCellsI cur ts (by omega)
  rw [Nat.mul_one,show (zs.filter fun h=> !decide (h=0)).length=min (zs.filter fun h=> !decide (h=0)).length ts.length by omega,←List.take_take,hlt,←List.map_take,hts,List.take_left']
  omega
end
section
open Go.RowKit Go.Sort
def rX (tb:Nat) (A:Option Addr):Nat→Prop:=fun k=>k=tb∨ ∃a,A=some a∧a.block=k
def DidR (tb:Nat) (ap:Value) (x':Ct) (O:Nat→Prop) (A:Option Addr) (w w':World):Prop:=
  ∃O' A' cap',CB w' tb ap x' O' A' cap'∧RB w' tb x'.rows O' A' cap'∧Fr (rX tb A) O O' w w'∧ ∀a',A'=some a'→(∃a,A=some a∧a.block=a'.block)∨w.heap.size≤a'.block
section
variable {w w' W' : World} {tb : Nat} {ap : Value} {x x' : Ct} {O O' : Nat → Prop} {A : Option Addr} {cap : Nat} {l : List Int}
theorem fr_grown {w w':World} {row:Option Nat} {X O:Nat→Prop} (hg:w.grownBy w' row) (hX: ∀k,row=some k→X k):Fr X O O w w':=
  ⟨hg.os,hg.tape,hg.output,hg.size,fun b hb _ hx=>hg.block b hb (fun e=>hx (hX b e.symm)),fun b hb=> .inl hb⟩
theorem own_moved {base n cap:Nat} {e:TypeId} {xs:List Value} (h:w.ownsRow base e 1 (.slice A n cap) n xs) (hb: ∀a,A=some a→w'.heap[a.block]? =w.heap[a.block]?):w'.ownsRow base e 1 (.slice A n cap) n xs:=by
  refine ⟨h.1,?_⟩
  rcases h.2 with h0|⟨g,cap',cur,hv,hbg,hg,r⟩
  · exact .inl h0
  · obtain ⟨rfl, -, -⟩:=Value.slice.inj hv
    exact .inr ⟨g,cap',cur,hv,hbg,(hb _ rfl).trans hg,r⟩
theorem own_lt {base n cap:Nat} {e:TypeId} {xs:List Value} (h:w.ownsRow base e 1 (.slice A n cap) n xs) {a:Addr} (ha:A=some a):a.block<w.heap.size:=by
  rcases h.2 with ⟨hv, -⟩|⟨g,cap',cur,hv,hbg,hg,r⟩
  · obtain ⟨rfl, -, -⟩:=Value.slice.inj hv;cases ha
  · obtain ⟨rfl, -, -⟩:=Value.slice.inj hv
    obtain rfl:=Option.some.inj ha
    exact lt_of hg
theorem RB.keep (h:RB w tb l O A cap) (hF:Fr (oneX tb) O O' w w'):RB w' tb l O' A cap:=
  ⟨own_moved h.own fun a ha=>hF.block a.block (own_lt h.own ha) (h.no a ha).1 (h.no a ha).2,fun a ha=>⟨hF.not_own (own_lt h.own ha) (h.no a ha).1,(h.no a ha).2⟩⟩
theorem RB.below (h:RB w tb l O A cap) (hb:Below w.heap.size w w'):RB w' tb l O A cap:=⟨own_moved h.own fun a ha=>hb.block a.block (own_lt h.own ha),h.no⟩
theorem RB.nil (w:World) (tb:Nat) (O:Nat→Prop):RB w tb [] O none 0:=⟨own_nil _ _ _ _,fun _ h=>by cases h⟩
theorem CB.keep (h:CB w tb ap x O A cap) (hF:Fr noX O O' w w') {s':Ar} (hA:AP w' ap s' O'):CB w' tb ap {x with s:=s'} O' A cap:=⟨hA,hF.keep h.blk h.no (fun q=>q),hF.not_own (lt_of h.blk) h.no⟩
theorem CB.below (h:CB w tb ap x O A cap) (hb:Below w.heap.size w w'):CB w' tb ap x O A cap:=⟨h.hA.below hb,keep_blk hb h.blk,h.no⟩
theorem didr_of (hR:RB w tb x.rows O A cap) (h:DidC tb ap x' O A cap w w') (hr:x'.rows=x.rows):DidR tb ap x' O A w w':=by
  obtain ⟨O',h1,h2⟩:=h
  exact ⟨O',A,cap,h1,by rw [hr];exact hR.keep h2,h2.mono fun k hk=> .inl hk,fun a ha=> .inl ⟨a,ha,rfl⟩⟩
theorem didr_trans {x2:Ct} {w1 w2:World} {O1:Nat→Prop} {A1:Option Addr} (hR:RB w tb x.rows O A cap) (hF:Fr (rX tb A) O O1 w w1) (hA1: ∀a',A1=some a'→(∃a,A=some a∧a.block=a'.block)∨w.heap.size≤a'.block) (h:DidR tb ap x2 O1 A1 w1 w2):DidR tb ap x2 O A w w2:=by
  obtain ⟨O2,A2,cap2,h1,h2,h3,h4⟩:=h
  refine ⟨O2,A2,cap2,h1,h2,⟨h3.os.trans hF.os,h3.tape.trans hF.tape,h3.output.trans hF.output,Nat.le_trans hF.size h3.size,fun b hb hO hX=> ?_,fun b hb=> ?_⟩,fun a' ha'=> ?_⟩
  · refine (h3.block b (Nat.lt_of_lt_of_le hb hF.size) (fun q=> ?_) (fun q=> ?_)).trans (hF.block b hb hO hX)
    · rcases hF.own b q with q|q
      · exact hO q
      · omega
    · rcases q with q|⟨a,ha,q⟩
      · exact hX (.inl q)
      · rcases hA1 a ha with ⟨a0,h0,q0⟩|q0
        · exact hX (.inr ⟨a0,h0,by omega⟩)
        · omega
  · rcases h3.own b hb with q|q
    · exact hF.own b q
    · exact .inr (Nat.le_trans hF.size q)
  · rcases h4 a' ha' with ⟨a1,e1,q⟩|q
    · rcases hA1 a1 e1 with ⟨a0,h0,q0⟩|q0
      · exact .inl ⟨a0,h0,by omega⟩
      · exact .inr (by omega)
    · exact .inr (Nat.le_trans hF.size q)
end
end
section
open Go.RowKit Go.Sort
attribute [local go_sem ↓] Go.wp_at_zero Go.wp_at_succ
attribute [local go_sem] lt_s2 lt_s3 lt_s4
attribute [local go_sem] idx0 idx1 idx2 idx3
variable {s : Ar} {O : Nat → Prop}
theorem tAt_calls {ap : Value} (h i : Int) (r : (Int × Int) × Bool) (hr : lGet s h i = some r) (w : World) (hA : AP w ap s O) :
    Calls Tryz.prog 152 #[ap, .int .i64 h, .int .i64 i] w fun e w'=>e= .returned (.tuple #[.int .i64 r.1.1, .int .i64 r.1.2, .bool r.2])∧Below w.heap.size w w':=by
  have Hr:=Lib.hid hr;clear hr
  go_enter Tryz.func152,Tryz.ntmps152
  go_wp2_with fail
  refine cg fun V hV_V=> ?_
  have hB:=Below.refl w.heap.size w
  refine nea0 hV_V hA hB ?_;clear hA hB;intro z_V hA hB
  clear hV_V
  refine rC (lGet_calls _ _ r Hr.out _ hA) fun W1 hb_W1=> ?_
  refine bea0 hb_W1 hA hB ?_;clear hb_W1 hA hB;intro z_W1 hA hB
  go_wp2_with fail
  refine wg fun V2 hV_V2=> ?_
  refine nna0 hV_V2 hA hB ?_;clear hA hB;intro hn_V2 z_V2 hA hB
  obtain ⟨kx,c_kx,o_kx,l_kxV2⟩:=nN hn_V2 hV_V2 (W1.heap.size)
  clear hV_V2 hn_V2
  refine dr (fun v=>Sm v V2 (W1.heap.size)∧(V2.heap.size≤v.heap.size)∧AP v ap s O) ⟨fun _=>rfl,Nat.le_refl _,hA.drew⟩ fun V2d hV_V2d hHeld=> ?_
  have v_kx:=c_kx.1
  refine nea1 hV_V2d hA hB kx ?_;clear hA hB kx c_kx;intro z_V2d hA hB kx c_kx
  clear hV_V2d
  refine ta 0 hHeld ?_
  refine ta 1 hHeld ?_
  refine ta 2 hHeld ?_
  refine ta 3 hHeld ?_
  refine ta 4 hHeld ?_
  refine rd 5 rfl fun K hK=> ?_
  go_simp
  refine ho hK hHeld fun hHeld=> ?_
  clear hK K
  refine rd 6 rfl fun K hK=> ?_
  go_simp
  refine ho hK hHeld fun hHeld=> ?_
  clear hK K
  refine rd 7 rfl fun K hK=> ?_
  go_simp
  refine ho hK hHeld fun hHeld=> ?_
  clear hK K
  refine wd ?_
  go_wp2_with fail
  go_ret3
  exact ⟨rfl,bel⟩
theorem cNew_yes (p : Addr) (root rate id place : Int) (l : List (Int × Int)) (r : (Int × Int) × Bool) (hl : lAll s (vOf s root).table = some l) (hll : l.length ≤ 50000)
    (hvi:vIs s root=true) (h1:1≤rate) (h2:rate≤16) (hpl:placeIn id l 0=(place,true)) (hr:lGet s (vOf s root).table place=some r) (w:World) (hA:AP w (.pointer (some p)) s O):
    Calls Tryz.prog 53 #[.pointer (some p), .int .i64 root, .int .i64 rate, .int .i64 id] w fun e w'=> ∃b O',e= .returned (.tuple #[.pointer (some ⟨b,0,none⟩), .int .i64 0])∧w.heap.size≤b∧CB w' b (.pointer (some p)) (Ct.new s root id r.1.2 place) O' none 0∧Fr noX O O' w w':=by
  have Hl:=Lib.hid hl;have Hll:=Lib.hid hll;have Hr:=Lib.hid hr
  have d1:decide (rate<1)=false:=by simp;omega
  have d2:decide (16<rate)=false:=by simp;omega
  clear hl hll h1 h2 hr
  go_enter Tryz.func53,Tryz.ntmps53
  go_wp2_with fail
  refine cg fun V hV_V=> ?_
  have hF:=Fr.refl (noX) O w
  refine nef0 hV_V hA hF ?_;clear hA hF;intro z_V hA hF
  clear hV_V
  refine rC (vOf_calls root _ hA) fun W1 hb_W1=> ?_
  refine bef0 hb_W1 hA hF ?_;clear hb_W1 hA hF;intro z_W1 hA hF
  unfold Parts.val
  rw [hvi]
  go_wp2_with fail
  refine calls_gen fun V2 hV_V2=> ?_
  refine nnf0 hV_V2 hA hF ?_;clear hA hF;intro hn_V2 z_V2 hA hF
  obtain ⟨kp,c_kp,o_kp,l_kpV2⟩:=nN hn_V2 hV_V2 (W1.heap.size)
  clear hV_V2 hn_V2
  refine rC (tPlace_calls _ id l Hl.out Hll.out _ hA) fun W3 hb_W3=> ?_
  refine bef1 hb_W3 hA hF kp ?_;clear hb_W3 hA hF kp c_kp;intro z_W3 hA hF kp c_kp
  rw [hpl]
  go_wp2_with fail
  refine cg fun V4 hV_V4=> ?_
  refine nef1 hV_V4 hA hF kp ?_;clear hA hF kp c_kp;intro z_V4 hA hF kp c_kp
  clear hV_V4
  refine rC (tAt_calls _ _ r Hr.out _ hA) fun W5 hb_W5=> ?_
  refine bef1 hb_W5 hA hF kp ?_;clear hb_W5 hA hF kp c_kp;intro z_W5 hA hF kp c_kp
  go_wp2_with fail
  refine cg fun V6 hV_V6=> ?_
  refine nef0 hV_V6 hA hF ?_;clear hA hF c_kp kp;intro z_V6 hA hF
  clear hV_V6
  refine wC (keep_calls _ _ hA) fun W7 O1 hA_W7 hf_W7=> ?_
  refine wif0 hf_W7 hF ?_;clear hA hF hf_W7;intro z_W7 hF;have hA:=hA_W7;clear hA_W7
  go_wp2_with fail
  go_ret2
  refine ⟨W7.heap.size,O1,rfl,by have:=hF.size;omega,?_,hF.alloc _⟩
  exact ⟨hA.alloc _,blk_new _ _ _ rfl,hA.new (Nat.le_refl _)⟩
end
section
open Go.RowKit
structure Sc (w0 W:World) (ap:Value) (b:Nat) (x:Ct) (L:List (Nat×Obj)):Prop where
  ex: ∃O A cap,CB W b ap x O A cap∧RB W b x.rows O A cap∧(∀c,O c→w0.heap.size≤c)∧(∀a,A=some a→w0.heap.size≤a.block)∧ ∀y∈L,W.heap[y.1]? =some y.2∧ ¬O y.1∧y.1≠b∧ ∀a,A=some a→a.block≠y.1
  bel:Below w0.heap.size w0 W
  own:w0.heap.size≤b
def ctObj (ap:Value) (x:Ct) (A:Option Addr) (cap:Nat):Obj:= .cells #[ap, .int .i64 x.src, .int .i64 x.id, .int .i64 x.length, .int .i64 x.place, .slice A x.rows.length cap, .int .i64 x.p.wave, .int .i64 x.p.marks, .int .i64 x.p.spots, .int .i64 x.p.table, .bool x.owns, .bool x.over, .int .i64 x.root] 197 (0,0)
section
variable {w0 W W' : World} {ap : Value} {b : Nat} {x x' : Ct} {L : List (Nat × Obj)}
theorem Sc.below (h:Sc w0 W ap b x L) (hb:Below W.heap.size W W'):Sc w0 W' ap b x L:=by
  obtain ⟨O,A,cap,hA,hR,hO,hAo,hL⟩:=h.ex
  exact ⟨⟨O,A,cap,hA.below hb,hR.below hb,hO,hAo,fun y hy=>⟨keep_blk hb (hL y hy).1,(hL y hy).2⟩⟩,below_step h.bel hb,h.own⟩
theorem Sc.box (h:Sc w0 W ap b x L) (o:Obj) (hv:W'=W.alloc o):Sc w0 W' ap b x ((W.heap.size,o)::L):=by
  subst hv
  have hb:=below_box W o
  obtain ⟨O,A,cap,hA,hR,hO,hAo,hL⟩:=h.ex
  refine ⟨⟨O,A,cap,hA.below hb,hR.below hb,hO,hAo,fun y hy=> ?_⟩,below_step h.bel hb,h.own⟩
  rcases List.mem_cons.1 hy with rfl|hy
  · exact ⟨blk_new _ _ _ rfl,hA.hA.new (Nat.le_refl _),by have:=lt_of hA.blk;dsimp only;omega,fun a ha=>by have:=own_lt hR.own ha;dsimp only;omega⟩
  · exact ⟨keep_blk hb (hL y hy).1,(hL y hy).2⟩
theorem Sc.at0 {c:Nat} {o:Obj} (h:Sc w0 W ap b x ((c,o)::L)):W.heap[c]? =some o:=by
  obtain ⟨O,A,cap, -, -, -, -,hL⟩:=h.ex
  exact (hL _ (List.mem_cons_self ..)).1
theorem Sc.st (h:Sc w0 W ap b x L): ∃A cap,St w0 W ap x.s ((b,ctObj ap x A cap)::L):=by
  obtain ⟨O,A,cap,hA,hR,hO,hAo,hL⟩:=h.ex
  refine ⟨A,cap,⟨O,hA.hA,hO,fun y hy=> ?_⟩,h.bel⟩
  rcases List.mem_cons.1 hy with rfl|hy
  · exact ⟨hA.blk,hA.no⟩
  · exact ⟨(hL y hy).1,(hL y hy).2.1⟩
variable {f : FuncId} {args : Array Value} {r : Ending} {P : Program}
theorem Sc.read (h:Sc w0 W ap b x L) (hc: ∀O A cap,CB W b ap x O A cap→Calls P f args W fun e w'=>e=r∧Below W.heap.size W w'):Calls P f args W fun e w'=>e=r∧Sc w0 w' ap b x L:=by
  obtain ⟨O,A,cap,hA, -⟩:=h.ex
  exact (hc O A cap hA).mono fun e w' ⟨he,hb⟩=>⟨he,h.below hb⟩
theorem Sc.same (h:Sc w0 W ap b x L) (hc: ∀O A cap,CB W b ap x O A cap→Calls P f args W fun e w'=>e=r∧W=w'):Calls P f args W fun e w'=>e=r∧Sc w0 w' ap b x L:=by
  obtain ⟨O,A,cap,hA, -⟩:=h.ex
  exact (hc O A cap hA).mono fun e w' ⟨he,hb⟩=>⟨he,hb▸h⟩
theorem Sc.act (h:Sc w0 W ap b x L) (hc: ∀O A cap,CB W b ap x O A cap→RB W b x.rows O A cap→Calls P f args W fun e w'=>e=r∧DidR b ap x' O A W w'):Calls P f args W fun e w'=>e=r∧Sc w0 w' ap b x' L:=by
  obtain ⟨O,A,cap,hA,hR,hO,hAo,hL⟩:=h.ex
  have hsz:=h.bel.size
  refine (hc O A cap hA hR).mono fun e w' ⟨he,O',A',cap',h1,h2,hF,hA'⟩=>⟨he,⟨O',A',cap',h1,h2,fun c hc=> ?_,fun a' ha'=> ?_,fun y hy=>⟨hF.keep (hL y hy).1 (hL y hy).2.1 (fun q=> ?_),fun hy'=> ?_,(hL y hy).2.2.1,fun a' ha'=> ?_⟩⟩,Fr.below_own hF h.bel hO (fun c hc=> ?_),h.own⟩
  · rcases hF.own c hc with q|q
    · exact hO c q
    · omega
  · rcases hA' a' ha' with ⟨a,e1,q⟩|q
    · have:=hAo a e1;omega
    · omega
  · rcases q with q|⟨a,e1,q⟩
    · exact (hL y hy).2.2.1 q
    · exact (hL y hy).2.2.2 a e1 q
  · rcases hF.own _ hy' with q|q
    · exact (hL y hy).2.1 q
    · have:=lt_of (hL y hy).1;omega
  · rcases hA' a' ha' with ⟨a,e1,q⟩|q
    · have:=(hL y hy).2.2.2 a e1;omega
    · have:=lt_of (hL y hy).1;omega
  · rcases hc with q|⟨a,e1,q⟩
    · rw [q];exact h.own
    · have:=hAo a e1;omega
theorem Sc.write {s':Ar} (h:Sc w0 W ap b x L) (hc: ∀O,AP W ap x.s O→Calls P f args W fun e w'=>e=r∧Did noX ap s' O W w'):Calls P f args W fun e w'=>e=r∧Sc w0 w' ap b {x with s:=s'} L:=by
  obtain ⟨O,A,cap,hA,hR,hO,hAo,hL⟩:=h.ex
  have hsz:=h.bel.size
  refine (hc O hA.hA).mono fun e w' ⟨he,O',h1,hF⟩=>⟨he,⟨O',A,cap,hA.keep hF h1,hR.keep hF.widen,fun c hc=> ?_,hAo,fun y hy=>⟨hF.keep (hL y hy).1 (hL y hy).2.1 (fun q=>q),fun hy'=> ?_,(hL y hy).2.2⟩⟩,fr_below h.bel hF hO,h.own⟩
  · rcases hF.own c hc with q|q
    · exact hO c q
    · omega
  · rcases hF.own _ hy' with q|q
    · exact (hL y hy).2.1 q
    · have:=lt_of (hL y hy).1;omega
end
theorem St.cut {w0 W : World} {p : Addr} {s : Ar} {L : List (Nat × Obj)} (h : St w0 W (.pointer (some p)) s L) (root rate id place : Int) (l : List (Int × Int)) (r : (Int × Int) × Bool) (hl : lAll s (vOf s root).table = some l) (hll : l.length ≤ 50000)
    (hvi:vIs s root=true) (h1:1≤rate) (h2:rate≤16) (hpl:placeIn id l 0=(place,true)) (hr:lGet s (vOf s root).table place=some r):
    Calls Tryz.prog 53 #[.pointer (some p), .int .i64 root, .int .i64 rate, .int .i64 id] W fun e w'=> ∃b,e= .returned (.tuple #[.pointer (some ⟨b,0,none⟩), .int .i64 0])∧Sc w0 w' (.pointer (some p)) b (Ct.new s root id r.1.2 place) L:=by
  obtain ⟨O,hA,hO,hL⟩:=h.ex
  refine (cNew_yes p root rate id place l r hl hll hvi h1 h2 hpl hr W hA).mono ?_
  rintro e w' ⟨b,O',he,hb,hp,hF⟩
  have hsz:=h.bel.size
  refine ⟨b,he,⟨O',none,0,hp,RB.nil _ _ _,fun c hc=> ?_,fun _ q=>(by cases q),fun y hy=>⟨hF.keep (hL y hy).1 (hL y hy).2 (fun q=>q),fun hy'=> ?_,fun e=> ?_,fun _ q=>(by cases q)⟩⟩,fr_below h.bel hF hO,Nat.le_trans hsz hb⟩
  · rcases hF.own c hc with q|q
    · exact hO c q
    · omega
  · rcases hF.own _ hy' with q|q
    · exact (hL y hy).2 q
    · have:=lt_of (hL y hy).1;omega
  · have:=lt_of (hL y hy).1;omega
end
section
open Go.RowKit Go.Sort
attribute [local go_sem ↓] Go.wp_at_zero Go.wp_at_succ
attribute [local go_sem] lt_s2 lt_s3 lt_s4 str_len
variable {ap : Value} {O : Nat → Prop} {tb : Nat} {x : Ct} {A : Option Addr} {cap : Nat}
theorem own_ints {V:World} {g base:Nat} {zs:List Int} {T:TypeId} (h:V.heap[g]? =some (.cells (zs.map (Value.int .i64)).toArray T (0,0))) (hb:base≤g) (hl:zs.length≤maxLen):V.ownsRow base T 1 (.slice (some ⟨g,0,none⟩) zs.length zs.length) zs.length (zs.map (Value.int .i64)):=
  ⟨by simp, .inr ⟨g,zs.length,_,rfl,hb,h,Nat.le_refl _,hl,by simp,by rw [Nat.mul_one,List.take_of_length_le (by simp)]⟩⟩
theorem own_some {w:World} {base n cap size:Nat} {A:Option Addr} {e:TypeId} {xs:List Value} (h:w.ownsRow base e size (.slice A n cap) n xs) (hn:0<n): ∃g,A=some ⟨g,0,none⟩∧base≤g:=by
  rcases h.2 with ⟨hv,h0⟩|⟨g,cap',cur,hv,hb, -⟩
  · omega
  · obtain ⟨rfl, -, -⟩:=Value.slice.inj hv;exact ⟨g,rfl,hb⟩
theorem one_len (k:Int):[k].length≤maxLen:=by unfold maxLen;simp
theorem cHeld_calls (w : World) (hT : CB w tb ap x O A cap) :
    Calls Tryz.prog 58 #[.pointer (some ⟨tb,0,none⟩)] w fun e w'=> ∃v,e= .returned v∧w'.ownsRow w.heap.size 3 1 v x.held.length (x.held.map (Value.int .i64))∧Below w.heap.size w w':=by
  have kt:=hT.blk
  unfold Ct.held
  cases hov:x.over with
  | true=>
    rw [hov] at kt
    go_enter Tryz.func58,Tryz.ntmps58
    have c_kt:=f3 kt;have l_ktw:=lt_of kt
    go_wp2_with fail
    go_ret
    exact ⟨_,rfl,World.ownsRow_nil _ _ _ _,Below.refl _ _⟩
  | false=>
    rw [hov] at kt
    rw [if_neg (by decide)]
    unfold Ct.list
    cases hb:x.owns with
    | false=>
      rw [hb] at kt
      rw [if_neg (by decide)]
      go_enter Tryz.func58,Tryz.ntmps58
      have c_kt:=f3 kt;have l_ktw:=lt_of kt
      go_wp2_with fail
      refine cg fun V hV_V=> ?_
      have hB:=Below.refl w.heap.size w
      refine neb1 hV_V hB kt ?_;clear hB kt c_kt;intro z_V hB kt c_kt
      obtain ⟨kn,c_kn,l_knV⟩:=nM hV_V (w.heap.size)
      clear hV_V
      have hc1:=sortOwn_calls w.heap.size w.heap.size 1 [x.src] V (own_ints kn (Nat.le_refl _) (one_len _)) (by simp)
      refine hc1.mono ?_
      rintro e1 W1 ⟨rfl,hg1,ho1⟩
      have hB1:=Lib.hid (hB.grown hg1 hB.size (fun j hj=>by cases hj;exact Nat.le_refl _))
      clear hc1 hg1 hB kt kn c_kt c_kn
      go_wp2_with fail
      have hc2:=delOwn_calls w.heap.size w.heap.size 1 (sortI [x.src]) W1 ho1 (by rw [(sortI_perm _).length_eq];simp)
      refine hc2.mono ?_
      rintro e2 W2 ⟨rfl,hg2,ho2⟩
      have hB2:=Lib.hid (hB1.out.grown hg2 hB1.out.size (fun j hj=>by cases hj;exact Nat.le_refl _))
      clear hc2 hg2
      go_wp2_with fail
      go_ret
      exact ⟨_,rfl,ho2,hB2.out⟩
    | true=>
      rw [hb] at kt
      rw [if_pos rfl]
      obtain ⟨zs,hzs⟩: ∃zs,[x.src,x.p.wave,x.p.marks,x.p.spots,x.p.table]=zs:=⟨_,rfl⟩
      have hz5:zs.length=5:=by rw [←hzs];rfl
      rw [hzs]
      have HZ:=Lib.hid hzs;have HZ5:=Lib.hid hz5
      clear hzs hz5
      go_enter Tryz.func58,Tryz.ntmps58
      have c_kt:=f3 kt;have l_ktw:=lt_of kt
      go_wp2_with fail
      refine wg fun V hV_V=> ?_
      have hB:=Below.refl w.heap.size w
      refine neb1 hV_V hB kt ?_;clear hB kt c_kt;intro z_V hB kt c_kt
      obtain ⟨kn,c_kn,l_knV⟩:=nM hV_V (w.heap.size)
      clear hV_V
      refine dr (fun v=>Sm v V (tb)∧(V.heap.size≤v.heap.size)∧True) ⟨fun _=>rfl,Nat.le_refl _,trivial⟩ fun Vd hV_Vd hHeld=> ?_
      have v_kt:=c_kt.1
      refine neb2 hV_Vd hB kt kn ?_;clear hB kt kn c_kt c_kn;intro z_Vd hB kt c_kt kn c_kn
      clear hV_Vd
      refine ta 0 hHeld ?_
      refine ta 1 hHeld ?_
      refine ta 2 hHeld ?_
      refine ta 3 hHeld ?_
      refine ta 4 hHeld ?_
      refine ta 5 hHeld ?_
      refine ta 6 hHeld ?_
      refine ta 7 hHeld ?_
      refine ta 8 hHeld ?_
      refine ta 9 hHeld ?_
      refine ta 10 hHeld ?_
      refine ta 11 hHeld ?_
      refine ta 12 hHeld ?_
      refine ta 13 hHeld ?_
      refine ta 14 hHeld ?_
      refine ta 15 hHeld ?_
      refine ta 16 hHeld ?_
      refine ta 17 hHeld ?_
      refine ta 18 hHeld ?_
      refine ta 19 hHeld ?_
      refine ta 20 hHeld ?_
      refine rd 21 rfl fun K hK=> ?_
      go_simp
      refine ga (K:=K) fun D hV_D=> ?_
      refine neb2 hV_D hB kt kn ?_;clear hB kt kn c_kt c_kn;intro z_D hB kt c_kt kn c_kn
      obtain ⟨kl,c_kl,l_klD⟩:=nM hV_D (Vd.heap.size)
      clear hV_D
      refine ho hK ⟨vv c_kt v_kt,by omega,trivial⟩ fun hHeld=> ?_
      clear hK K
      refine rd 22 rfl fun K hK=> ?_
      refine step_moreN (by rfl) _ _ 43 (by rfl) (base:=w.heap.size) (e:=3) (.int .i64 0) 1 8 (by omega) Tryz.underlying43 (by kernel_rfl) (by rfl) (v:= .slice (some ⟨w.heap.size,0,none⟩) 1 1) (by rfl) (own_ints (zs:=[x.src]) kn (Nat.le_refl _) (one_len _)) (by rfl) (Rds.of_own (own_ints (zs:=[x.p.wave,x.p.marks,x.p.spots,x.p.table]) (base:=0) kl (Nat.zero_le _) (by unfold maxLen;simp))) (by simp [Value.oneCell']) (nm:=5) (by rfl) (by omega) (by omega) (by omega) ?_
      intro A5 c5 W5 hown5 hlow5 hkeep5
      obtain ⟨g,rfl,hge⟩:=own_some hown5 (by omega)
      have hown6:W5.ownsRow w.heap.size 3 1 (.slice (some ⟨g,0,none⟩) [x.src,x.p.wave,x.p.marks,x.p.spots,x.p.table].length c5) [x.src,x.p.wave,x.p.marks,x.p.spots,x.p.table].length ([x.src,x.p.wave,x.p.marks,x.p.spots,x.p.table].map (Value.int .i64)):=hown5
      rw [HZ.out] at hown6
      have hz5:=HZ5.out
      have hc1:=sortOwn_calls w.heap.size g c5 zs W5 hown6 (by omega)
      rw [hz5] at hc1
      have HC1:=Lib.hid hc1
      clear hown5 hown6 hz5 hc1 hkeep5
      have l_tbw:=lt_of hT.blk
      replace kt:=keep_low hlow5 l_tbw kt
      replace hB:=low_step hB (Nat.le_refl _) hlow5
      clear kn kl c_kn c_kl c_kt
      obtain ⟨c_kt,f_kt⟩:_∧_:=⟨f3 kt,trivial⟩
      refine ho hK (⟨vv c_kt v_kt,by have:=hlow5.size;omega,trivial⟩) fun hHeld=> ?_
      clear hK K
      refine rd 23 rfl fun K hK=> ?_
      go_simp
      refine ho hK hHeld fun hHeld=> ?_
      clear hK K
      refine wd ?_
      have HB:=Lib.hid hB
      clear hB hlow5
      go_wp2_with fail
      refine HC1.out.mono ?_
      rintro e1 W1 ⟨rfl,hg1,ho1⟩
      have hs5:(sortI zs).length=5:=by rw [(sortI_perm zs).length_eq,HZ5.out]
      have hB1:=Lib.hid (HB.out.grown hg1 HB.out.size (fun j hj=>by cases hj;exact hge))
      have ho2:W1.ownsRow w.heap.size 3 1 (.slice (some ⟨g,0,none⟩) (sortI zs).length c5) (sortI zs).length ((sortI zs).map (Value.int .i64)):=by rw [hs5];exact ho1
      have hc2:=delOwn_calls w.heap.size g c5 (sortI zs) W1 ho2 (by omega)
      rw [hs5] at hc2
      have HC2:=Lib.hid hc2
      clear hc2 ho2 hg1 HC1 ho1 hs5 HZ5 HB
      go_wp2_with fail
      refine HC2.out.mono ?_
      rintro e2 W2 ⟨rfl,hg2,ho2⟩
      have hB2:=Lib.hid (hB1.out.grown hg2 hB1.out.size (fun j hj=>by cases hj;exact hge))
      have HO2:=Lib.hid ho2
      clear hg2 ho2
      go_wp2_with fail
      go_ret
      exact ⟨_,rfl,HO2.out,hB2.out⟩
end
section
open Go.RowKit Go.Sort
attribute [local go_sem ↓] Go.wp_at_zero Go.wp_at_succ
attribute [local go_sem] lt_s2 lt_s3 lt_s4 str_len
variable {ap : Value} {O : Nat → Prop} {tb : Nat} {A : Option Addr} {cap : Nat}
theorem cSwap_calls (x : Ct) (i : Nat) (hi : i < 4) (r : Int × Int × Ar) (w : World) (hT : CB w tb ap { x with s := r.2.2 } O A cap) :
    Calls Tryz.prog 156 #[.pointer (some ⟨tb,0,none⟩), .pointer (some ⟨tb,6+i,none⟩), .int .i64 r.1, .int .i64 r.2.1] w fun e w'=>e= .returned (.int .i64 (x.swap i r).1)∧DidC tb ap (x.swap i r).2 O A cap w w':=by
  obtain ⟨h,e,s⟩:=r
  dsimp only at hT⊢
  by_cases he:e=0
  · subst he
    have E1:Hid (x.swap i (h,0,s)=(0,{x with s:=s.drop (x.p.at i),p:=x.p.put i h})):=Lib.hid (by unfold Ct.swap;rw [if_pos rfl])
    rw [E1.out]
    have h4:i=0∨i=1∨i=2∨i=3:=by omega
    clear hi E1
    rcases h4 with rfl|rfl|rfl|rfl<;>
    (skip
     go_enter Tryz.func156,Tryz.ntmps156
     have hA:=hT.hA
     have kt:=hT.blk
     have o_kt:=hT.no
     have c_kt:=f3 kt;have l_ktw:=lt_of kt
     go_wp2_with fail
     refine wg fun V hV_V=> ?_
     have hF:=Fr.refl ((oneX tb)) O w
     refine nef1 hV_V hA hF kt ?_;clear hA hF kt c_kt;intro z_V hA hF kt c_kt
     clear hV_V
     refine dr (fun v=>Sm v V (tb)∧(V.heap.size≤v.heap.size)∧True) ⟨fun _=>rfl,Nat.le_refl _,trivial⟩ fun Vd hV_Vd hHeld=> ?_
     have v_kt:=c_kt.1
     refine nef1 hV_Vd hA hF kt ?_;clear hA hF kt c_kt;intro z_Vd hA hF kt c_kt
     clear hV_Vd
     refine ta 0 hHeld ?_
     refine ta 1 hHeld ?_
     refine ta 2 hHeld ?_
     refine ta 3 hHeld ?_
     refine ta 4 hHeld ?_
     refine ta 5 hHeld ?_
     refine ta 6 hHeld ?_
     refine rd 7 rfl fun K hK=> ?_
     go_simp
     try simp only [IntWalk.i64_left]
     refine wC (drop_calls _ _ hA) fun W O1 hA_W hf_W=> ?_
     refine wif1 hf_W hF kt o_kt ?_;clear hA hF kt o_kt c_kt hf_W;intro z_W hF kt c_kt o_kt;have hA:=hA_W;clear hA_W
     refine ho hK ⟨vv c_kt v_kt,by omega,trivial⟩ fun hHeld=> ?_
     clear hK K
     refine wd ?_
     go_wp2_with fail
     go_ret
     refine ⟨rfl,?_⟩
     refine didc_gen (fun V2 hV_V2=> ?_)
     refine nef1 hV_V2 hA hF kt ?_;clear hA hF kt c_kt;intro z_V2 hA hF kt c_kt
     clear hV_V2
     exact ⟨_,⟨hA,kt,o_kt⟩,hF⟩
     done)
  · have d1:(e==0)=false:=by simpa using he
    have E1:Hid (x.swap i (h,e,s)=(e,{x with s:=s})):=Lib.hid (by unfold Ct.swap;rw [if_neg he])
    rw [E1.out]
    clear he
    go_enter Tryz.func156,Tryz.ntmps156
    have hA:=hT.hA
    have kt:=hT.blk
    have o_kt:=hT.no
    have c_kt:=f3 kt;have l_ktw:=lt_of kt
    go_wp2_with fail
    go_ret
    exact ⟨rfl,O,⟨hA,kt,o_kt⟩,Fr.refl _ _ _⟩
def Ct.drops (x:Ct) (l:List Int):Ct:={x with s:=x.s.dropAll l}
theorem cStop_calls (x : Ct) (w : World) (hT : CB w tb ap x O A cap) :
    Calls Tryz.prog 57 #[.pointer (some ⟨tb,0,none⟩)] w fun e w'=>e= .returned (.tuple #[])∧DidC tb ap x.stop O A cap w w':=by
  obtain ⟨l,hl⟩: ∃l,x.held=l:=⟨_,rfl⟩
  have hl5:l.length≤5:=by
    rw [←hl];unfold Ct.held
    split
    · simp
    · refine Nat.le_trans (List.length_filter_le _ _) ?_
      rw [(sortI_perm _).length_eq];unfold Ct.list;split<;>simp
  have Hst:Hid (x.stop={x with s:=x.s.dropAll l,over:=true}):=Lib.hid (by unfold Ct.stop;rw [hl])
  go_enter Tryz.func57,Tryz.ntmps57
  go_wp2_with fail
  refine (cHeld_calls _ hT).mono ?_
  rintro e0 W0 ⟨v,rfl,hown,hb0⟩
  rw [hl] at hown
  have hF0:Fr (oneX tb) O O w W0:=(Fr.refl _ _ _).below hb0
  have hT0:CB W0 tb ap x O A cap:=⟨hT.hA.below hb0,keep_blk hb0 hT.blk,hT.no⟩
  have HT0:=Lib.hid hT0;have HF0:=Lib.hid hF0
  have hrow:(v= .slice none 0 0∧l=[])∨ ∃g cap1 cs,v= .slice (some ⟨g,0,none⟩) l.length cap1∧W0.heap[g]? =some (.cells cs 3 (0,0))∧(∀j (h:j<l.length),cs[j]? =some (.int .i64 l[j]))∧ ¬O g∧g≠tb:=by
    rcases hown.2 with ⟨h1,h2⟩|⟨g,cap1,cur,h1,h2,h3,h4,h5,h6,h7⟩
    · exact .inl ⟨h1,List.length_eq_zero_iff.1 h2⟩
    · refine .inr ⟨g,cap1,cur,h1,h3,fun j hj=> ?_,fun hO=> ?_,fun e=> ?_⟩
      · have:=congrArg (fun l=>l[j]?) h7
        simp only [Nat.mul_one,List.getElem?_take_of_lt hj,List.getElem?_map,List.getElem?_eq_getElem hj,Option.map_some] at this
        rw [←this];simp
      · have:=hT.hA.lt hO;omega
      · have:=lt_of hT.blk;omega
  clear hT hown hb0 hT0 hF0 hl
  rcases hrow with ⟨rfl,rfl⟩|⟨g,cap1,cs,rfl,hcs,hcell,hov,hne⟩
  · have kt:=HT0.out.blk
    have c_kt:=f3 kt;have l_ktW0:=lt_of kt
    go_wp2_with fail
    go_loopw [7] (fun c wr=>c= .int .i64 0∧wr=W0) (fun _ _=>0)
    case atStart=>exact ⟨rfl,rfl⟩
    case round=>
      obtain ⟨rfl,rfl⟩:=hrel
      go_wp2_with fail
      go_end0
      rw [Hst.out]
      refine ⟨rfl,?_⟩
      have hA:=HT0.out.hA
      have o_kt:=HT0.out.no
      have hF:=HF0.out
      refine didc_gen (fun V2 hV_V2=> ?_)
      refine nef1 hV_V2 hA hF kt ?_;clear hA hF kt c_kt;intro z_V2 hA hF kt c_kt
      clear hV_V2
      exact ⟨_,⟨hA,kt,o_kt⟩,hF⟩
  · have kt:=HT0.out.blk
    have c_kt:=f3 kt;have l_ktW0:=lt_of kt
    have Hcell:=Lib.hid hcell
    clear hcell
    go_wp2_with fail
    go_loopw [7] (fun c wr=> ∃i:Nat,i≤l.length∧c= .int .i64 i∧wr.heap[g]? =some (.cells cs 3 (0,0))∧ ∃O',CB wr tb ap (x.drops (l.take i)) O' A cap∧Fr (oneX tb) O O' w wr∧ ¬O' g) (fun c _=>l.length - (intOf c).toNat)
    case atStart=>exact ⟨0,Nat.zero_le _,rfl,hcs,O,HT0.out,HF0.out,hov⟩
    case round=>
      obtain ⟨i,hi,rfl,hcs',O',hT',hF',hov'⟩:=hrel
      clear kt c_kt
      by_cases hlt:i<l.length
      · have d1:decide (i<l.length)=true:=by simpa using hlt
        have cb:=cells_of hcs'
        have ci:wr.cell? ⟨g,i,none⟩=some (.int .i64 l[i]):=by rw [cb];exact Hcell.out i hlt
        have kt:=hT'.blk
        have HT:=Lib.hid hT';have HF:=Lib.hid hF'
        have HD:Hid ((x.drops (l.take (i+1))).s=((x.drops (l.take i)).s).drop l[i]):=Lib.hid (drop_take x.s l i hlt)
        clear hT' hF' cb
        have c_kt:=f3 kt;have l_ktwr:=lt_of kt
        go_wp2_with fail
        refine (drop_calls _ _ HT.out.hA).mono ?_
        rintro e w1 ⟨rfl,O1,hA1,hf1⟩
        clear kt c_kt
        go_wp2_with fail
        go_roundw
        case rel=>
          refine ⟨i+1,by omega,by go_num,hf1.keep hcs' hov' (fun h=>h),O1,⟨?_,hf1.keep HT.out.blk HT.out.no (fun h=>h),hf1.not_own (lt_of HT.out.blk) HT.out.no⟩,HF.out.trans hf1.widen,hf1.not_own (lt_of hcs') hov'⟩
          rw [HD.out];exact hA1
        case measure=>simp [intOf];omega
      · have d1:decide (i<l.length)=false:=by simpa using hlt
        obtain rfl:i=l.length:=by omega
        rw [List.take_length] at hT'
        have kt:=hT'.blk
        have hA:AP wr ap (x.s.dropAll l) O':=hT'.hA
        have o_kt:=hT'.no
        have hF:=hF'
        have c_kt:=f3 kt;have l_ktwr:=lt_of kt
        go_wp2_with fail
        go_end0
        rw [Hst.out]
        refine ⟨rfl,?_⟩
        refine didc_gen (fun V3 hV_V3=> ?_)
        replace kt:=kK hV_V3 kt
        exact ⟨O',⟨(nA hV_V3:AP V3 ap (x.s.dropAll l) O'),kt,o_kt⟩,nF hV_V3⟩
end
section
open Go.RowKit
theorem wpList_push2 {P : Program} {ops : Array Oper} {rest : List Oper} {o : Oper} {a : Act} {Q : Exit → Act → World → Prop} (w : World) (hgd : o.guard = none) (s x : Operand) (t : TypeId)
    (ho:o.op= .call {callee:= .builtin .append,args:= #[s,x],argTypes:= #[t,t]})
    (base:Nat) (e:TypeId) (z:Value) (size bytes:Nat) (ht:P.underlying t=some (.slice e)) (hi:(P.info? e).map (fun i=>(i.zero,i.size,i.bytes))=some (some z,size,bytes))
    (hzs:z.cells.size=size) (hsz:0<size) (v:Value) (n:Nat) (xs:List Value) (hs:a.eval s=v) (hown:w.ownsRow base e size v n xs)
    (news:Array Value) (hl:news.size=size) (hx:a.eval x= .slice (some ⟨w.heap.size,0,none⟩) 1 1) (h1: ∀u∈news.toList,u.oneCell'=true) (h63:n+1≤maxLen) (hbytes:(n+1)*bytes≤140737488355328) (hbase:base≤w.heap.size)
    (h: ∀g cap w',w'.ownsRow base e size (.slice (some ⟨g,0,none⟩) (n+1) cap) (n+1) (xs++news.toList)→Below base w w'→g<w'.heap.size→w.grownBy w' v.ownBlock→(v.ownBlock=some g∨w.heap.size≤g)→wpList P ops Q rest (a.put o.dst (.slice (some ⟨g,0,none⟩) (n+1) cap)) w'):
    wpList P ops Q (o::rest) a (w.alloc (.cells news e)):=by
  obtain ⟨i0,hi0,hz0,hz1,hz2⟩:=info_parts hi
  refine wpList_append_lies _ hgd s x t ho base e i0 z size bytes ht hi0 hz0 hz1 hz2 hzs hsz v n xs hs (hown.alloc _) ⟨w.heap.size,0,none⟩ 1 1 news.toList hx (by simpa using hl) ?_ h1 (by omega) h63 hbytes (by simp;omega) (w.heap.size+1) (by simp) ?_
  · intro j u hu
    have hk:=cells_of (blk_new w (.cells news e) w.heap.size rfl) j
    rw [show (⟨w.heap.size,0,none⟩:Addr).add j=⟨w.heap.size,j,none⟩ by unfold Addr.add;split<;>simp_all]
    rw [hk];simpa using hu
  · intro g cap w' h2 hg hat hlt
    have h0:=World.grownBy_alloc w (.cells news e) v.ownBlock
    refine h g cap w' h2 ?_ hlt ⟨hg.os.trans h0.os,hg.tape.trans h0.tape,hg.output.trans h0.output,Nat.le_trans h0.size hg.size,fun k hk hne=>(hg.block k (Nat.lt_of_lt_of_le hk h0.size) hne).trans (h0.block k hk hne)⟩ (hat.imp id fun q=>by omega)
    refine ((Below.refl base w).alloc hbase _).grown hg (by simp;omega) ?_
    intro k hk
    rcases hown.2 with ⟨rfl,_⟩|⟨g',cap',cur,rfl,hge,_⟩
    · simp [Value.ownBlock] at hk
    · simp [Value.ownBlock] at hk;omega
theorem step_push2 {P : Program} {ops : Array Oper} {o : Oper} {a : Act} {K : Act → World → Prop} {Q : Exit → Act → World → Prop} {E : Prop} (w : World) (hwant : Region.wanted o (yielded ops a.tmps) = true) (s x : Operand) (t : TypeId)
    (ho:o.op= .call {callee:= .builtin .append,args:= #[s,x],argTypes:= #[t,t]})
    (base:Nat) (e:TypeId) (z:Value) (size bytes:Nat) (ht:P.underlying t=some (.slice e)) (hi:(P.info? e).map (fun i=>(i.zero,i.size,i.bytes))=some (some z,size,bytes))
    (hzs:z.cells.size=size) (hsz:0<size) (v:Value) (n:Nat) (xs:List Value) (hs:a.eval s=v) (hown:w.ownsRow base e size v n xs)
    (news:Array Value) (hl:news.size=size) (hx:a.eval x= .slice (some ⟨w.heap.size,0,none⟩) 1 1) (h1: ∀u∈news.toList,u.oneCell'=true) (h63:n+1≤maxLen) (hbytes:(n+1)*bytes≤140737488355328) (hbase:base≤w.heap.size)
    (h: ∀g cap w',w'.ownsRow base e size (.slice (some ⟨g,0,none⟩) (n+1) cap) (n+1) (xs++news.toList)→Below base w w'→g<w'.heap.size→w.grownBy w' v.ownBlock→(v.ownBlock=some g∨w.heap.size≤g)→K (a.put o.dst (.slice (some ⟨g,0,none⟩) (n+1) cap)) w'):
    if Region.wanted o (yielded ops a.tmps)=true then Oper.wp P o a (w.alloc (.cells news e)) K Q else E:=by
  rw [if_pos hwant]
  obtain ⟨i0,hi0,hz0,hz1,hz2⟩:=info_parts hi
  refine wp_append_lies _ s x t ho base e i0 z size bytes ht hi0 hz0 hz1 hz2 hzs hsz v n xs hs (hown.alloc _) ⟨w.heap.size,0,none⟩ 1 1 news.toList hx (by simpa using hl) ?_ h1 (by omega) h63 hbytes (by simp;omega) (w.heap.size+1) (by simp) ?_
  · intro j u hu
    have hk:=cells_of (blk_new w (.cells news e) w.heap.size rfl) j
    rw [show (⟨w.heap.size,0,none⟩:Addr).add j=⟨w.heap.size,j,none⟩ by unfold Addr.add;split<;>simp_all]
    rw [hk];simpa using hu
  · intro g cap w' h2 hg hat hlt
    have h0:=World.grownBy_alloc w (.cells news e) v.ownBlock
    refine h g cap w' h2 ?_ hlt ⟨hg.os.trans h0.os,hg.tape.trans h0.tape,hg.output.trans h0.output,Nat.le_trans h0.size hg.size,fun k hk hne=>(hg.block k (Nat.lt_of_lt_of_le hk h0.size) hne).trans (h0.block k hk hne)⟩ (hat.imp id fun q=>by omega)
    refine ((Below.refl base w).alloc hbase _).grown hg (by simp;omega) ?_
    intro k hk
    rcases hown.2 with ⟨rfl,_⟩|⟨g',cap',cur,rfl,hge,_⟩
    · simp [Value.ownBlock] at hk
    · simp [Value.ownBlock] at hk;omega
structure Ow2 (w:World) (base:Nat) (e1:TypeId) (s1:Nat) (v1:Value) (n1:Nat) (x1:List Value) (e2:TypeId) (s2:Nat) (v2:Value) (n2:Nat) (x2:List Value):Prop where
  a:w.ownsRow base e1 s1 v1 n1 x1
  b:w.ownsRow base e2 s2 v2 n2 x2
  ne: ∀k,v1.ownBlock=some k→v2.ownBlock≠some k
section
variable {w w' : World} {base : Nat} {e1 e2 : TypeId} {s1 s2 n1 n2 : Nat} {v1 v2 : Value} {x1 x2 : List Value}
theorem Ow2.nil (w:World) (base:Nat) (e1:TypeId) (s1:Nat) (e2:TypeId) (s2:Nat):Ow2 w base e1 s1 (.slice none 0 0) 0 [] e2 s2 (.slice none 0 0) 0 []:=⟨own_nil _ _ _ _,own_nil _ _ _ _,fun k h=>by simp [Value.ownBlock] at h⟩
theorem Ow2.below (h:Ow2 w base e1 s1 v1 n1 x1 e2 s2 v2 n2 x2) (hb:Below w.heap.size w w'):Ow2 w' base e1 s1 v1 n1 x1 e2 s2 v2 n2 x2:=⟨own_below h.a hb,own_below h.b hb,h.ne⟩
theorem Ow2.swap (h:Ow2 w base e1 s1 v1 n1 x1 e2 s2 v2 n2 x2):Ow2 w base e2 s2 v2 n2 x2 e1 s1 v1 n1 x1:=⟨h.b,h.a,fun k h2 h1=>h.ne k h1 h2⟩
theorem Ow2.push (h:Ow2 w base e1 s1 v1 n1 x1 e2 s2 v2 n2 x2) {g c m:Nat} {x:List Value} (ho:w'.ownsRow base e1 s1 (.slice (some ⟨g,0,none⟩) m c) m x) (hg:w.grownBy w' v1.ownBlock) (hat:v1.ownBlock=some g∨w.heap.size≤g):Ow2 w' base e1 s1 (.slice (some ⟨g,0,none⟩) m c) m x e2 s2 v2 n2 x2:=by
  refine ⟨ho,h.b.kept hg ?_,fun k hk h2=> ?_⟩
  · cases h2:v2.ownBlock with
    | none=>exact .inl rfl
    | some k=>exact .inr fun e=>h.ne k e.symm h2
  · simp [Value.ownBlock] at hk
    subst hk
    rcases hat with hat|hat
    · exact h.ne g hat h2
    · have:=(h.b.lt g h2).2;omega
end
end
section
open Go.RowKit
section
variable {P : Program} {ops : Array Oper} {Q : Exit → Act → World → Prop} {md : Region.Mode} {S : World → Prop} {n : Nat}
structure Cl (md:Region.Mode) (ops:Array Oper) (listed:Array Bool):Prop where
  size:listed.size=ops.size
  closed: ∀j oj,ops[j]? =some oj→listed.getD j false=true→ ∀e∈oj.after,Region.binds md e=true→listed.getD e.on false=true
theorem Cl.set {i:Nat} {listed:Array Bool} (inv:Cl md ops listed) (hi:i∈Region.ready md ops listed):Cl md ops (listed.setIfInBounds i true):=by
  obtain ⟨_,oi,hoi,hall⟩:=mem_ready.1 hi
  refine ⟨by simp [inv.size],fun j oj hj hl e he hb=> ?_⟩
  by_cases hij:i=j
  · subst hij
    have:oj=oi:=Option.some.inj (hj.symm.trans hoi)
    subst this
    exact getD_set_true (hall e he hb)
  · rw [getD_set_ne false hij] at hl
    exact getD_set_true (inv.closed j oj hj hl e he hb)
def ancB (md:Region.Mode) (ops:Array Oper):Nat→Nat→Nat→Bool
  | 0,j,i=>Region.waitsFor md ops j i
  | f+1,j,i=>Region.waitsFor md ops j i||(List.range ops.size).any fun k=>Region.waitsFor md ops j k&&ancB md ops f k i
theorem anc_not {i:Nat} {listed:Array Bool} (inv:Cl md ops listed) (hi:listed.getD i false=false): ∀(f j:Nat),ancB md ops f j i=true→listed.getD j false=false∧j∉Region.ready md ops listed:=by
  have one: ∀j k,Region.waitsFor md ops j k=true→listed.getD k false=false→listed.getD j false=false∧j∉Region.ready md ops listed:=fun j k h hk=>by
    obtain ⟨oj,hoj,e,he,hb,hon⟩:=Region.waitsFor_spec h
    refine ⟨?_,fun hr=> ?_⟩
    · cases hl:listed.getD j false with
      | false=>rfl
      | true=>
        have:=inv.closed j oj hoj hl e he hb
        rw [hon,hk] at this;cases this
    · obtain ⟨_,o',ho',hall⟩:=mem_ready.1 hr
      have:o'=oj:=Option.some.inj (ho'.symm.trans hoj)
      subst this
      have:=hall e he hb
      rw [hon,hk] at this;cases this
  intro f
  induction f with
  | zero=>exact fun j h=>one j i h hi
  | succ f ih=>
    intro j h
    unfold ancB at h
    rw [Bool.or_eq_true] at h
    rcases h with h|h
    · exact one j i h hi
    · obtain ⟨k, -,hk⟩:=List.any_eq_true.1 h
      rw [Bool.and_eq_true] at hk
      exact one j k hk.1 (ih k hk.2).1
def wpAnyT (P:Program) (md:Region.Mode) (ops:Array Oper) (Q:Exit→Act→World→Prop) (S:World→Prop) (n:Nat):Nat→Array Bool→Act→World→Prop
  | 0,listed,a,w=>Region.ready md ops listed=[]∧Q .normal a w
  | fuel+1,listed,a,w=>
    (Region.ready md ops listed=[]→Q .normal a w)∧
    ∀i∈Region.ready md ops listed,wpOp P ops Q i (fun a' w'=>((listed.setIfInBounds i true).getD n true=false→S w')∧wpAnyT P md ops Q S n fuel (listed.setIfInBounds i true) a' w') a w
theorem wpAny_of_T: ∀(fuel:Nat) (listed:Array Bool) (a:Act) (w:World),wpAnyT P md ops Q S n fuel listed a w→wpAny P md ops Q fuel listed a w
  | 0,_,_,_,h=>h
  | fuel+1,_,_,_,h=>⟨h.1,fun i hi=>wpOp_mono (fun a' w' h'=>wpAny_of_T fuel _ a' w' h'.2) (h.2 i hi)⟩
def WT (P:Program) (md:Region.Mode) (ops:Array Oper) (Q:Exit→Act→World→Prop) (S:World→Prop) (n fuel:Nat) (listed:Array Bool) (a:Act) (w:World):Prop:=Cl md ops listed→wpAnyT P md ops Q S n fuel listed a w
theorem tail_first {i : Nat} {oi : Oper} {v : Value} (hi : ops[i]? = some oi) (hin : i ≠ n) {S' : World → Prop} (hS' : (∀ w, S' w) ∨ (S' = S ∧ ∃ f, ancB md ops f n i = true)) (hn : n < ops.size) (hsel : ∀ (j : Nat) (o : Oper) cs b, ops[j]? = some o → o.op ≠ .select cs b) (hQ : ∀ c a w, Q (.panic c) (a.put oi.dst v) w → Q (.panic c) a w)
    {a0:Act} (hy:Idle P ops Q S' i oi v a0): ∀(fuel:Nat) (listed:Array Bool) (a:Act) (w:World),Cl md ops listed→(execOp a.eval oi=execOp a0.eval oi∧Region.wanted oi (yielded ops a.tmps)=Region.wanted oi (yielded ops a0.tmps))→
      (∀j oj,ops[j]? =some oj→j≠i→listed.getD j true=false→(∀e∈oj.after,Region.binds md e=true→e.on≠i)→oi.apart ops oj=true)→
      i∈Region.ready md ops listed→(listed.getD n true=false→S w)→S' w→wpAnyT P md ops Q S n fuel (listed.setIfInBounds i true) (a.put oi.dst v) w→wpAnyT P md ops Q S n (fuel+1) listed a w
  | fuel,listed,a,w,inv,hz,hfree,hr,hSw,hS,H=>by
    refine ⟨fun h=>(by rw [h] at hr;cases hr),fun j hj=> ?_⟩
    by_cases hji:j=i
    · subst hji
      exact hy.run a hz.1 hz.2 _ w hS ⟨fun q=>hSw (by rw [getD_set_ne true hin] at q;exact q),H⟩
    · have hjr:j∈Region.ready md ops (listed.setIfInBounds i true):=ready_mono hj hji
      cases fuel with
      | zero=>rw [H.1] at hjr;cases hjr
      | succ fuel=>
        obtain ⟨hjun,oj,hoj,hall⟩:=mem_ready.1 hj
        have hi0:=(mem_ready.1 hr).1
        have hno: ∀e∈oj.after,Region.binds md e=true→e.on≠i:=fun e he hb heq=>by
          have h1:=hall e he hb
          rw [heq] at h1
          by_cases hlt:i<listed.size
          · simp [hlt] at hi0 h1;rw [hi0] at h1;cases h1
          · simp [Array.getElem?_eq_none (Nat.le_of_not_lt hlt)] at h1
        have hap:=hfree j oj hoj hji hjun hno
        have h3:=(Oper.apart_spec hap).2.2
        have hsi:=fun cs b=>hsel i oi cs b hi
        refine wpOp_mono ?_ (op_carry (Z:=fun a=>execOp a.eval oi=execOp a0.eval oi∧Region.wanted oi (yielded ops a.tmps)=Region.wanted oi (yielded ops a0.tmps)) hoj hap (fun cs b=>hsel j oj cs b hoj) hQ
          (fun a u hz=>⟨(execOp_put oi hsi a oj.dst u h3).trans hz.1,(wanted_put oi a oj.dst u h3).trans hz.2⟩) (fun _ _ hz=>hz) hz (H.2 j hjr))
        rintro a' w' ⟨hz',hS2,hk⟩
        have hSn:(listed.setIfInBounds j true).getD n true=false→S w':=fun q=>hS2 (by
          rw [Array.setIfInBounds_comm _ _ (Ne.symm hji),getD_set_ne true hin];exact q)
        have hS3:S' w':=by
          rcases hS' with h|⟨rfl,f,hf⟩
          · exact h w'
          · obtain ⟨b1,b2⟩:=anc_not inv (getD_both hi0) f n hf
            refine hSn ?_
            have hnj:j≠n:=fun e=>b2 (e▸hj)
            rw [getD_set_ne true hnj]
            exact getD_in (by rw [inv.size];exact hn) b1
        refine ⟨hSn,tail_first hi hin hS' hn hsel hQ hy fuel (listed.setIfInBounds j true) a' w' (inv.set hj) hz' (fun k ok hk hki hun hno=> ?_) (ready_mono hr (Ne.symm hji)) hSn hS3 ?_⟩
        · refine hfree k ok hk hki ?_ hno
          by_cases hjk:j=k
          · subst hjk;exact hjun
          · rwa [getD_set_ne true hjk] at hun
        · rw [Array.setIfInBounds_comm _ _ hji];exact hk
variable {i : Nat} {oi : Oper} {tl : List Oper} {fuel : Nat} {listed : Array Bool} {a a' : Act} {w : World}
theorem tta (i : Nat) {v : Value} (hS : S w) (h : WT P md ops Q S n fuel (listed.setIfInBounds i true) a' w)
    (hi:ops.toList.drop i=oi::tl:=by rfl)
    (hy: ∀w,S w→(execOp a.eval oi).run P w= .ok (.value v) w:=by (intro w hSw;go_simp;(try simp only [IntWalk.i64_left]);try (with_reducible rfl)))
    (e:a.put oi.dst v=a':=by ((try simp only [PT]);rfl))
    (hs:Region.noSelect ops=true:=by kernel_rfl) (hf:Region.free md ops listed i=true:=by kernel_rfl) (hr:(Region.ready md ops listed).contains i=true:=by kernel_rfl) (hk:ancB md ops ops.size n i=true:=by kernel_rfl) (hn:decide (n<ops.size)=true:=by kernel_rfl) (hin:decide (i=n)=false:=by kernel_rfl)
    (hQ: ∀c a w,Q (.panic c) (a.put oi.dst v) w→Q (.panic c) a w:=by exact fun _ _ _ h=>h) (hw:Region.wanted oi (yielded ops a.tmps)=true:=by rfl):WT P md ops Q S n (fuel+1) listed a w:=fun inv=>by
  have hr':i∈Region.ready md ops listed:=by simpa using hr
  refine tail_first (at_drop hi) (of_decide_eq_false hin) (S':=S) (.inr ⟨rfl,_,hk⟩) (of_decide_eq_true hn) (Region.noSelect_spec hs) hQ (a0:=a) ⟨fun a2 he hwa K w2 hS2 hK=> ?_⟩ fuel listed a w inv ⟨rfl,rfl⟩ (Region.free_spec (at_drop hi) hf) hr' (fun _=>hS) hS (by rw [e];exact h (inv.set hr'))
  unfold wpOp
  rw [at_drop hi]
  dsimp only
  rw [hwa,hw,if_pos rfl]
  left
  unfold Oper.wp
  rw [he,hy w2 hS2]
  exact hK
theorem ttf (i : Nat) {v : Value} (hS : S w) (h : WT P md ops Q S n fuel (listed.setIfInBounds i true) a' w)
    (hi:ops.toList.drop i=oi::tl:=by rfl)
    (hy: ∀w,(execOp a.eval oi).run P w= .ok (.value v) w:=by (intro w;go_simp;(try simp only [IntWalk.i64_left]);try (with_reducible rfl)))
    (e:a.put oi.dst v=a':=by ((try simp only [PT]);rfl))
    (hs:Region.noSelect ops=true:=by kernel_rfl) (hf:Region.free md ops listed i=true:=by kernel_rfl) (hr:(Region.ready md ops listed).contains i=true:=by kernel_rfl) (hn:decide (n<ops.size)=true:=by kernel_rfl) (hin:decide (i=n)=false:=by kernel_rfl)
    (hQ: ∀c a w,Q (.panic c) (a.put oi.dst v) w→Q (.panic c) a w:=by exact fun _ _ _ h=>h) (hw:Region.wanted oi (yielded ops a.tmps)=true:=by rfl):WT P md ops Q S n (fuel+1) listed a w:=fun inv=>by
  have hr':i∈Region.ready md ops listed:=by simpa using hr
  refine tail_first (at_drop hi) (of_decide_eq_false hin) (S':=fun _=>True) (.inl fun _=>trivial) (of_decide_eq_true hn) (Region.noSelect_spec hs) hQ (a0:=a) ⟨fun a2 he hwa K w2 hS2 hK=> ?_⟩ fuel listed a w inv ⟨rfl,rfl⟩ (Region.free_spec (at_drop hi) hf) hr' (fun _=>hS) trivial (by rw [e];exact h (inv.set hr'))
  unfold wpOp
  rw [at_drop hi]
  dsimp only
  rw [hwa,hw,if_pos rfl]
  left
  unfold Oper.wp
  rw [he,hy w2]
  exact hK
theorem trd (i : Nat) (ho : ops.toList.drop i = oi :: tl)
    (h: ∀K':Act→World→Prop,Shut (∀a w,S w→(S w→WT P md ops Q S n fuel (listed.setIfInBounds i true) a w)→K' a w)→if Region.wanted oi (yielded ops a.tmps)=true then Oper.wp P oi a w K' Q else K' (a.put oi.dst undef) w)
    (hr:Region.ready md ops listed=[i]:=by kernel_rfl):WT P md ops Q S n (fuel+1) listed a w:=fun inv=>by
  have hr':i∈Region.ready md ops listed:=by rw [hr];simp
  refine ⟨fun h0=>(by rw [hr] at h0;cases h0),fun j hj=> ?_⟩
  rw [hr] at hj
  obtain rfl:=List.mem_singleton.1 hj
  exact wpOp_step (at_drop ho) (fun K' hK=>h K' (fun a w hS hW=>hK a w ⟨fun _=>hS,hW hS (inv.set hr')⟩))
theorem tst (i : Nat) (ho : ops.toList.drop i = oi :: tl)
    (h: ∀K':Act→World→Prop,Shut (∀a w,Q .normal a w→K' a w)→if Region.wanted oi (yielded ops a.tmps)=true then Oper.wp P oi a w K' Q else K' (a.put oi.dst undef) w)
    (hr:Region.ready md ops listed=[i]:=by kernel_rfl) (hr2:Region.ready md ops (listed.setIfInBounds i true)=[]:=by kernel_rfl) (hn:decide (i=n)=true:=by kernel_rfl) (hsz:decide (n<ops.size)=true:=by kernel_rfl):WT P md ops Q S n (fuel+1) listed a w:=fun inv=>by
  refine ⟨fun h0=>(by rw [hr] at h0;cases h0),fun j hj=> ?_⟩
  rw [hr] at hj
  obtain rfl:=List.mem_singleton.1 hj
  have hin:j<listed.size:=by rw [inv.size,of_decide_eq_true hn];exact of_decide_eq_true hsz
  refine wpOp_step (at_drop ho) (fun K' hK=>h K' (fun a w hq=>hK a w ⟨fun q=> ?_,?_⟩))
  · rw [←of_decide_eq_true hn] at q
    simp [hin] at q
  · cases fuel with
    | zero=>exact ⟨hr2,hq⟩
    | succ fuel=>exact ⟨fun _=>hq,by rw [hr2];simp⟩
theorem tho {K:Act→World→Prop} (hK:Shut (∀a w,S w→(S w→WT P md ops Q S n fuel listed a w)→K a w)) (hS:S w) (h:S w→WT P md ops Q S n fuel listed a' w) (e:a=a':=by ((try simp only [PT]);rfl)):K a w:=by subst e;exact hK.out _ _ hS h
theorem thl {K:Act→World→Prop} (hK:Shut (∀a w,NoPanic Q .normal a w→K a w)) (h:Q .normal a' w) (e:a=a':=by ((try simp only [PT]);rfl)):K a w:=by subst e;exact hK.out _ _ (NoPanic.normal h)
theorem tdr {id:Nat} (n:Nat) (S:World→Prop) (hS:S w.drew) (h: ∀D,D=w.drew→S D→WT P .any ops (NoPanic Q) S n ops.size (Array.replicate ops.size false) a D) (hm:P.follows .mixedOrders=true:=by kernel_rfl):(Code.region id ops true).wp P Q a w:=by
  refine wp_region_noPanic (wp_region_any hm (wpAny_of_T _ _ _ _ (h _ rfl hS ⟨by simp,fun j oj _ hl=> ?_⟩)))
  rw [getD_replicate_false] at hl;cases hl
end
end
section
open Go.RowKit Go.Sort
attribute [local go_sem ↓] Go.wp_at_zero Go.wp_at_succ
attribute [local go_sem] lt_s2 lt_s3 lt_s4 str_len
variable {ap : Value} {O : Nat → Prop} {tb : Nat} {A : Option Addr} {cap : Nat}
theorem ownBlock_some {A:Option Addr} {n c g:Nat} (h:(Value.slice A n c).ownBlock=some g): ∃a,A=some a∧a.block=g:=by
  cases A with
  | none=>simp [Value.ownBlock] at h
  | some a=>exact ⟨a,rfl,by simpa [Value.ownBlock] using h⟩
theorem didr_gen {x':Ct} {w w':World} (h: ∀v,v=w'→DidR tb ap x' O A w v):DidR tb ap x' O A w w':=h w' rfl
theorem fr_more {w W W':World} {g:Nat} {X O:Nat→Prop} (hF:Fr X O O w W) (hg:W.grownBy W' (some g)) (hX:X g∨w.heap.size≤g):Fr X O O w W':=
  ⟨hg.os.trans hF.os,hg.tape.trans hF.tape,hg.output.trans hF.output,Nat.le_trans hF.size hg.size,fun b hb hO hx=>(hg.block b (Nat.lt_of_lt_of_le hb hF.size) (fun e=>by
    obtain rfl:=Option.some.inj e
    rcases hX with q|q
    · exact hx q
    · omega)).trans (hF.block b hb hO hx),fun b hb=> .inl hb⟩
theorem cFind_calls (x y : Ct) (hy : x.find = some y) (hl : x.rows.length ≤ 500) (w : World) (hT : CB w tb ap x O A cap) (hR : RB w tb x.rows O A cap) :
    Calls Tryz.prog 153 #[.pointer (some ⟨tb,0,none⟩)] w fun e w'=>e= .returned (.tuple #[])∧DidR tb ap y O A w w':=by
  obtain ⟨n,hn,hy⟩:=Option.map_eq_some_iff.1 hy
  have HN:=Lib.hid hn;have HY:=Lib.hid hy;have HR:=Lib.hid hR;have HL:=Lib.hid hl
  have hblk: ∀k,(Value.slice A x.rows.length cap).ownBlock=some k→k≠tb∧ ¬O k:=fun k hk=>by
    obtain ⟨a,ha,rfl⟩:=ownBlock_some hk
    exact ⟨(hR.no a ha).2,(hR.no a ha).1⟩
  have HBLK:=Lib.hid hblk
  clear hn hy hl hblk hR
  go_enter Tryz.func153,Tryz.ntmps153
  have hA:=hT.hA
  have kt:=hT.blk
  have o_kt:=hT.no
  have c_kt:=f3 kt;have l_ktw:=lt_of kt
  go_wp2_with fail
  refine tdr 13 (fun v=>(w.heap.size≤v.heap.size)∧Sm v w tb∧True) ⟨Nat.le_refl _,fun _=>rfl,trivial⟩ fun w9 hV_w9 hHeld=> ?_
  have hown0:Hid (w9.ownsRow 0 3 1 (.slice A x.rows.length cap) x.rows.length (x.rows.map (Value.int .i64))):=Lib.hid (by rw [hV_w9];exact HR.out.own.drew)
  have v_kt:=c_kt.1
  have hF:=Fr.refl ((rX tb A)) O w
  refine nef1 hV_w9 hA hF kt ?_;clear hA hF kt c_kt;intro z_w9 hA hF kt c_kt
  clear hV_w9
  refine tta 0 hHeld ?_
  refine tta 1 hHeld ?_
  refine tta 2 hHeld ?_
  refine tta 3 hHeld ?_
  refine tta 4 hHeld ?_
  refine tta 5 hHeld ?_
  refine tta 6 hHeld ?_
  refine tta 7 hHeld ?_
  refine tta 8 hHeld ?_
  refine trd 9 rfl fun K hK=> ?_
  go_simp
  have ktA:=keep_blk (below_box w9 (.cells #[.int .i64 x.place] 3)) kt
  refine tho hK ⟨by rw [siz_alloc];omega,vv (f3 ktA) v_kt,trivial⟩ fun hHeld=> ?_
  clear hK K ktA
  refine trd 10 rfl fun K hK=> ?_
  refine step_push2 _ (by rfl) _ _ 43 (by rfl) 0 3 (.int .i64 0) 1 8 Tryz.underlying43 (by kernel_rfl) (by rfl) (by omega) _ _ _ (by rfl) hown0.out _ (by rfl) (by rfl) (by simp [Value.oneCell']) (by unfold maxLen;have:=HL.out;omega) (by have:=HL.out;omega) (Nat.zero_le _) ?_
  intro g c W1 hown1 hlow1 hlt1 hgr1 hat1
  have kt1:=(hgr1.block tb (lt_of kt) (fun e=>(HBLK.out tb e.symm).1 rfl)).trans kt
  have hA1:AP W1 ap x.s O:=hA.same hgr1.size (fun q hq=>hgr1.block q (hA.lt hq) (fun e=>(HBLK.out q e.symm).2 hq))
  have hF1:Fr (rX tb A) O O w W1:=hF.trans (fr_grown hgr1 (fun k hk=> .inr (ownBlock_some hk)))
  have hne:g≠tb:=by
    rcases hat1 with q|q
    · exact (HBLK.out g q).1
    · have:=lt_of kt;omega
  have o_kg: ¬O g:=by
    rcases hat1 with q|q
    · exact (HBLK.out g q).2
    · exact hA.new q
  have HXG:Hid (rX tb A g∨w.heap.size≤g):=Lib.hid (by
    rcases hat1 with q|q
    · exact .inl (.inr (ownBlock_some q))
    · exact .inr (by omega))
  obtain ⟨l1,hl1⟩: ∃l1,x.rows++[x.place]=l1:=⟨_,rfl⟩
  have hlen:x.rows.length+1=l1.length:=by rw [←hl1];simp
  have e1:x.rows.map (Value.int .i64)++(#[Value.int .i64 x.place]:Array Value).toList=l1.map (Value.int .i64):=by rw [←hl1];simp
  have hown2:=hown1
  rw [e1,hlen] at hown2
  rw [hlen]
  obtain ⟨cur, -,kg,g1,g2,g3,g4⟩:=own_parts hown2
  have G1:=Lib.hid g1;have G2:=Lib.hid g2;have G3:=Lib.hid g3;have G4:=Lib.hid g4;have HL1:=Lib.hid hl1;have HLEN:=Lib.hid hlen;have HNE:=Lib.hid hne
  clear hA hF kt c_kt hown0 hown1 hown2 hlow1 hgr1 hat1 e1 g1 g2 g3 g4 hl1 hlen z_w9
  have kt:=kt1;have hA:=hA1;have hF:=hF1
  have c_kt:=f3 kt
  clear kt1 hA1 hF1
  have c_kg:=f3 kg;have l_kgW1:=lt_of kg
  refine tho hK ⟨by have:=hF.size;omega,vv c_kt v_kt,trivial⟩ fun hHeld=> ?_
  clear hK K
  refine tta 11 hHeld ?_
  refine tta 12 hHeld ?_
  refine tst 13 rfl fun K hK=> ?_
  go_simp
  refine ga (K:=K) fun D hV_D=> ?_
  refine nef2 hV_D hA hF kt kg ?_;clear hA hF kt kg c_kt c_kg;intro z_D hA hF kt c_kt kg c_kg
  clear hV_D
  refine thl hK ?_
  clear hK K
  go_wp2_with fail
  refine wg fun V2 hV_V2=> ?_
  refine nef2 hV_V2 hA hF kt kg ?_;clear hA hF kt kg c_kt c_kg;intro z_V2 hA hF kt c_kt kg c_kg
  clear hV_V2
  refine tdr 19 (fun v=>Sm v V2 (tb)∧(V2.heap.size≤v.heap.size)∧AP v ap x.s O) ⟨fun _=>rfl,Nat.le_refl _,hA.drew⟩ fun V2d hV_V2d hHeld=> ?_
  have v_kt:=c_kt.1
  refine nef2 hV_V2d hA hF kt kg ?_;clear hA hF kt kg c_kt c_kg;intro z_V2d hA hF kt c_kt kg c_kg
  clear hV_V2d
  refine tta 0 hHeld ?_
  refine tta 1 hHeld ?_
  refine tta 2 hHeld ?_
  refine tta 3 hHeld ?_
  refine tta 4 hHeld ?_
  refine tta 5 hHeld ?_
  refine tta 6 hHeld ?_
  refine tta 7 hHeld ?_
  refine tta 8 hHeld ?_
  refine tta 9 hHeld ?_
  refine tta 10 hHeld ?_
  refine tta 11 hHeld ?_
  refine tta 12 hHeld ?_
  refine trd 13 rfl fun K hK=> ?_
  go_simp
  try simp only [IntWalk.i64_left]
  refine rC (vNext_calls x.src x.place n HN.out _ hA) fun W2 hb_W2=> ?_
  refine bef2 hb_W2 hA hF kt kg ?_;clear hb_W2 hA hF kt kg c_kt c_kg;intro z_W2 hA hF kt c_kt kg c_kg
  refine tho hK ⟨vv c_kt v_kt,by omega,hA⟩ fun hHeld=> ?_
  clear hK K
  refine tta 14 hHeld ?_
  refine tta 15 hHeld ?_
  refine ttf 16 hHeld ?_
  refine tta 17 hHeld ?_
  refine tta 18 hHeld ?_
  refine tst 19 rfl fun K hK=> ?_
  go_simp
  refine ga (K:=K) fun D2 hV_D2=> ?_
  refine nef2 hV_D2 hA hF kt kg ?_;clear hA hF kt kg c_kt c_kg;intro z_D2 hA hF kt c_kt kg c_kg
  clear hV_D2
  refine thl hK ?_
  clear hK K
  go_wp2_with fail
  refine wg fun V3 hV_V3=> ?_
  refine nef2 hV_V3 hA hF kt kg ?_;clear hA hF kt kg c_kt c_kg;intro z_V3 hA hF kt c_kt kg c_kg
  clear hV_V3
  refine dr (fun v=>Sm v V3 (tb)∧(V3.heap.size≤v.heap.size)∧True) ⟨fun _=>rfl,Nat.le_refl _,trivial⟩ fun V3d hV_V3d hHeld=> ?_
  have v_kt:=c_kt.1
  refine nef2 hV_V3d hA hF kt kg ?_;clear hA hF kt kg c_kt c_kg;intro z_V3d hA hF kt c_kt kg c_kg
  clear hV_V3d
  refine ta 0 hHeld ?_
  refine ta 1 hHeld ?_
  refine ta 2 hHeld ?_
  refine ta 3 hHeld ?_
  refine ta 4 hHeld ?_
  refine ta 5 hHeld ?_
  refine ta 6 hHeld ?_
  refine ta 7 hHeld ?_
  refine ta 8 hHeld ?_
  refine ta 9 hHeld ?_
  refine wd ?_
  have hy:=HY.out
  have hr1:(x.found n.1).rows=l1:=HL1.out
  rw [hr1] at hy
  by_cases hle:((l1.length:Nat):Int)≤x.length
  · rw [if_pos hle] at hy
    have d1:decide ((l1.length:Int)≤x.length)=true:=by simpa using hle
    go_wp2_with fail
    (try simp only [Exit.inBlock,Exit.then])
    refine bodyPost_ret (results_none rfl _ _ _) rfl ?_
    refine ⟨rfl,?_⟩
    refine didr_gen fun V4 hV_V4=> ?_
    refine nef2 hV_V4 hA hF kt kg ?_;clear hA hF kt kg c_kt c_kg;intro z_V4 hA hF kt c_kt kg c_kg
    clear hV_V4
    subst hy
    refine ⟨O,some ⟨g,0,none⟩,c,⟨hA,?_,o_kt⟩,⟨?_,fun a ha=>by cases ha;exact ⟨o_kg,HNE.out⟩⟩,hF,fun a' ha'=> ?_⟩
    · rw [hr1];exact kt
    · rw [hr1];exact ⟨by simp, .inr ⟨g,c,cur,rfl,Nat.zero_le _,kg,G1.out,G2.out,G3.out,G4.out⟩⟩
    · cases ha'
      rcases HXG.out with (q|⟨a,ha,q⟩)|q
      · exact absurd q HNE.out
      · exact .inl ⟨a,ha,q⟩
      · exact .inr q
  · rw [if_neg hle] at hy
    have d1:decide ((l1.length:Int)≤x.length)=false:=by simpa using hle
    have hl1:l1.length≤1000:=by have:=HLEN.out;have:=HL.out;omega
    go_wp2_with fail
    refine cg fun V4 hV_V4=> ?_
    refine nef2 hV_V4 hA hF kt kg ?_;clear hA hF kt kg c_kt c_kg;intro z_V4 hA hF kt c_kt kg c_kg
    clear hV_V4
    refine (sortOwn_calls 0 g c l1 V4 ⟨by simp, .inr ⟨g,c,cur,rfl,Nat.zero_le _,kg,G1.out,G2.out,G3.out,G4.out⟩⟩ hl1).mono ?_
    rintro e5 W5 ⟨rfl,hg5,ho5⟩
    have kt5:=(hg5.block tb (lt_of kt) (fun e=>HNE.out (Option.some.inj e).symm)).trans kt
    have hA5:AP W5 ap x.s O:=hA.same hg5.size (fun q hq=>hg5.block q (hA.lt hq) (fun e=>o_kg ((Option.some.inj e)▸hq)))
    have hF5:Fr (rX tb A) O O w W5:=fr_more hF hg5 HXG.out
    obtain ⟨cur5, -,kg5,f1,f2,f3',f4⟩:=own_parts ho5
    have F1:=Lib.hid f1;have F2:=Lib.hid f2;have F3:=Lib.hid f3';have F4:=Lib.hid f4;have HY2:=Lib.hid hy
    have hz5:=hg5.size
    clear hA hF kt kg c_kt c_kg ho5 hg5 f1 f2 f3' f4 hy hr1 hl1 HY
    have kt:=kt5;have hA:=hA5;have hF:=hF5;have kg:=kg5
    have c_kt:=f3 kt;have c_kg:=f3 kg
    clear kt5 hA5 hF5 kg5
    go_wp2_with fail
    refine wg fun V6 hV_V6=> ?_
    refine nef2 hV_V6 hA hF kt kg ?_;clear hA hF kt kg c_kt c_kg;intro z_V6 hA hF kt c_kt kg c_kg
    clear hV_V6
    refine tdr 15 (fun v=>Sm v V6 (tb)∧(V6.heap.size≤v.heap.size)∧AP v ap x.s O) ⟨fun _=>rfl,Nat.le_refl _,hA.drew⟩ fun V6d hV_V6d hHeld=> ?_
    have v_kt:=c_kt.1
    refine nef2 hV_V6d hA hF kt kg ?_;clear hA hF kt kg c_kt c_kg;intro z_V6d hA hF kt c_kt kg c_kg
    clear hV_V6d
    refine tta 0 hHeld ?_
    refine tta 1 hHeld ?_
    refine tta 2 hHeld ?_
    refine tta 3 hHeld ?_
    refine tta 4 hHeld ?_
    refine tta 5 hHeld ?_
    refine tta 6 hHeld ?_
    refine tta 7 hHeld ?_
    refine tta 8 hHeld ?_
    refine trd 9 rfl fun K hK=> ?_
    go_simp
    try simp only [IntWalk.i64_left]
    refine rC (vOf_calls x.src _ hA) fun W6 hb_W6=> ?_
    refine bef2 hb_W6 hA hF kt kg ?_;clear hb_W6 hA hF kt kg c_kt c_kg;intro z_W6 hA hF kt c_kt kg c_kg
    refine tho hK ⟨vv c_kt v_kt,by omega,hA⟩ fun hHeld=> ?_
    clear hK K
    unfold Parts.val
    refine tta 10 hHeld ?_
    refine tta 11 hHeld ?_
    refine ttf 12 hHeld ?_
    refine tta 13 hHeld ?_
    refine tta 14 hHeld ?_
    refine tst 15 rfl fun K hK=> ?_
    go_simp
    refine ga (K:=K) fun D6 hV_D6=> ?_
    refine nef2 hV_D6 hA hF kt kg ?_;clear hA hF kt kg c_kt c_kg;intro z_D6 hA hF kt c_kt kg c_kg
    clear hV_D6
    refine thl hK ?_
    clear hK K
    obtain ⟨q,hq⟩: ∃q,vOf x.s x.src=q:=⟨_,rfl⟩
    rw [hq] at kt c_kt
    have HQ:=Lib.hid hq
    go_wp2_with fail
    refine wg fun V7 hV_V7=> ?_
    refine nef2 hV_V7 hA hF kt kg ?_;clear hA hF kt kg c_kt c_kg;intro z_V7 hA hF kt c_kt kg c_kg
    clear hV_V7
    rw [hq]
    clear hq
    refine dr (fun v=>Sm v V7 (tb)∧(V7.heap.size≤v.heap.size)∧AP v ap x.s O) ⟨fun _=>rfl,Nat.le_refl _,hA.drew⟩ fun V7d hV_V7d hHeld=> ?_
    have v_kt:=c_kt.1
    refine nef2 hV_V7d hA hF kt kg ?_;clear hA hF kt kg c_kt c_kg;intro z_V7d hA hF kt c_kt kg c_kg
    clear hV_V7d
    refine ta 0 hHeld ?_
    refine ta 1 hHeld ?_
    refine ta 2 hHeld ?_
    refine ta 3 hHeld ?_
    refine ta 4 hHeld ?_
    refine ta 5 hHeld ?_
    refine ta 6 hHeld ?_
    refine ta 7 hHeld ?_
    refine ta 8 hHeld ?_
    refine ta 9 hHeld ?_
    refine ta 10 hHeld ?_
    refine ta 11 hHeld ?_
    refine ta 12 hHeld ?_
    refine ta 13 hHeld ?_
    refine ta 14 hHeld ?_
    refine ta 15 hHeld ?_
    refine ta 16 hHeld ?_
    refine ta 17 hHeld ?_
    refine ta 18 hHeld ?_
    refine ta 19 hHeld ?_
    refine ta 22 hHeld ?_
    refine rd 20 rfl fun K hK=> ?_
    go_simp
    refine ga (K:=K) fun D7 hV_D7=> ?_
    refine nnf2 hV_D7 hA hF kt kg ?_;clear hA hF kt kg c_kt c_kg;intro hn_D7 z_D7 hA hF kt c_kt kg c_kg
    obtain ⟨kl,c_kl,o_kl,l_klD7⟩:=nN hn_D7 hV_D7 (V7d.heap.size)
    clear hV_D7 hn_D7
    refine ho hK ⟨vv c_kt v_kt,by omega,hA⟩ fun hHeld=> ?_
    clear hK K
    refine ta 21 hHeld ?_
    refine wd ?_
    obtain ⟨gl,hgl⟩: ∃gl,V7d.heap.size=gl:=⟨_,rfl⟩
    rw [hgl] at kl o_kl⊢
    have hnl:gl≠tb:=by have:=lt_of kt;omega
    have HF:=Lib.hid hF;have HA:=Lib.hid hA;have KT:=Lib.hid kt;have KL:=Lib.hid kl;have KG:=Lib.hid kg;have HNL:=Lib.hid hnl
    clear hF hA kt kl kg c_kt c_kl c_kg hnl
    obtain ⟨l,hl⟩: ∃l,[q.wave,q.marks,q.spots,q.table]=l:=⟨_,rfl⟩
    have hl4:l.length=4:=by rw [←hl];rfl
    have Hcell:Hid (∀j (h:j<l.length),(#[Value.int .i64 q.wave, .int .i64 q.marks, .int .i64 q.spots, .int .i64 q.table]:Array Value)[j]? =some (.int .i64 l[j])):=Lib.hid (by subst hl;exact part_cell q)
    have Hl:=Lib.hid hl
    clear hl
    go_wp2_with fail
    go_loopw [88] (fun cc wr=> ∃i:Nat,i≤4∧cc= .int .i64 i∧ ∃O',Hid (AP wr ap (keepL x.s (l.take i)) O'∧Fr (rX tb A) O O' w wr∧wr.heap[tb]? =some (.cells #[ap, .int .i64 x.src, .int .i64 x.id, .int .i64 x.length, .int .i64 n.1, .slice (some ⟨g,0,none⟩) l1.length c, .int .i64 q.wave, .int .i64 q.marks, .int .i64 q.spots, .int .i64 q.table, .bool x.owns, .bool x.over, .int .i64 x.root] 197 (0,0))∧wr.heap[gl]? =some (.cells #[.int .i64 q.wave, .int .i64 q.marks, .int .i64 q.spots, .int .i64 q.table] 3 (0,0))∧wr.heap[g]? =some (.cells cur5 3 (0,0))∧ ¬O' tb∧ ¬O' gl∧ ¬O' g)) (fun cc _=>4 - (intOf cc).toNat)
    case atStart=>exact ⟨0,Nat.zero_le _,rfl,O,Lib.hid ⟨HA.out,HF.out,KT.out,KL.out,KG.out,o_kt,o_kl,o_kg⟩⟩
    case round=>
      obtain ⟨i,hi,rfl,O',HH⟩:=hrel
      obtain ⟨hA',hF',kt,kn,kg,ot,on,og⟩:=HH.out
      by_cases hlt':i<4
      · have d2:decide (i<4)=true:=by simpa using hlt'
        have cb:=cells_of kn
        have ci:wr.cell? ⟨gl,i,none⟩=some (.int .i64 (l[i]'(by omega))):=by rw [cb];exact Hcell.out i (by omega)
        have HD:Hid (keepL x.s (l.take (i+1))=(keepL x.s (l.take i)).keep (l[i]'(by omega))):=Lib.hid (keep_take x.s l i (by omega))
        have KN:=Lib.hid kn;have KG2:=Lib.hid kg;have HF':=Lib.hid hF'
        clear cb kn kg hF' HH
        have c_kt:=f3 kt;have l_ktwr:=lt_of kt
        go_wp2_with fail
        refine (keep_calls _ _ hA').mono ?_
        rintro e w1 ⟨rfl,O1,hA1,hf1⟩
        clear c_kt
        go_wp2_with fail
        go_roundw
        case rel=>
          refine ⟨i+1,by omega,by go_num,O1,Lib.hid ⟨by rw [HD.out];exact hA1,HF'.out.trans hf1.widen,hf1.keep kt ot (fun h=>h),hf1.keep KN.out on (fun h=>h),hf1.keep KG2.out og (fun h=>h),hf1.not_own (lt_of kt) ot,hf1.not_own (lt_of KN.out) on,hf1.not_own (lt_of KG2.out) og⟩⟩
        case measure=>simp [intOf];omega
      · have d2:decide (i<4)=false:=by simpa using hlt'
        obtain rfl:i=4:=by omega
        have hkl:keepL x.s (l.take 4)=keepP x.s q:=by rw [←Hl.out];rfl
        rw [hkl] at hA'
        have hA:=hA';have hF:=hF';have o_kt:=ot
        have o_kg:=og
        clear hA' hF' kn og on HH HF HA KT KL KG
        have c_kt:=f3 kt;have l_ktwr:=lt_of kt
        have c_kg:=f3 kg;have l_kgwr:=lt_of kg
        have hne:=HNE.out
        go_wp2_with fail
        go_end0
        refine ⟨rfl,?_⟩
        refine didr_gen fun V9 hV_V9=> ?_
        refine nef2 hV_V9 hA hF kt kg ?_;clear hA hF kt kg c_kt c_kg;intro z_V9 hA hF kt c_kt kg c_kg
        clear hV_V9
        have hy:=HY2.out
        have hst:(x.found n.1).begin={x.found n.1 with rows:=sortI l1,p:=q,s:=keepP x.s q,owns:=true}:=by
          unfold Ct.begin
          show ({x.found n.1 with rows:=sortI (x.rows++[x.place]),p:=vOf x.s x.src,s:=keepP x.s (vOf x.s x.src),owns:=true}:Ct)=_
          rw [HQ.out,HL1.out]
        rw [hst] at hy
        have hsl:(sortI l1).length=l1.length:=(sortI_perm l1).length_eq
        subst hy
        refine ⟨O',some ⟨g,0,none⟩,c,⟨hA,?_,o_kt⟩,⟨?_,fun a ha=>by cases ha;exact ⟨o_kg,HNE.out⟩⟩,hF,fun a' ha'=> ?_⟩
        · show V9.heap[tb]? =some (.cells #[ap, .int .i64 x.src, .int .i64 x.id, .int .i64 x.length, .int .i64 n.1, .slice (some ⟨g,0,none⟩) (sortI l1).length c, .int .i64 q.wave, .int .i64 q.marks, .int .i64 q.spots, .int .i64 q.table, .bool true, .bool x.over, .int .i64 x.root] 197 (0,0))
          rw [hsl];exact kt
        · show V9.ownsRow 0 3 1 (.slice (some ⟨g,0,none⟩) (sortI l1).length c) (sortI l1).length ((sortI l1).map (Value.int .i64))
          rw [hsl];exact ⟨by simp [hsl], .inr ⟨g,c,cur5,rfl,Nat.zero_le _,kg,F1.out,F2.out,F3.out,F4.out⟩⟩
        · cases ha'
          rcases HXG.out with (q|⟨a,ha,q⟩)|q
          · exact absurd q HNE.out
          · exact .inl ⟨a,ha,q⟩
          · exact .inr q
end
section
open Go.RowKit
attribute [local go_sem ↓] Go.wp_at_zero Go.wp_at_succ
attribute [local go_sem] lt_s2 lt_s3 lt_s4
variable {ap : Value} {O : Nat → Prop} {tb : Nat} {t : Tb}
theorem snoc_of {x:List Bool} (h:1≤x.length): ∃x' c,x'++[c]=x∧x'.length+1=x.length:=by
  rcases List.eq_nil_or_concat x with rfl|⟨l,c,rfl⟩
  · simp at h
  · exact ⟨l,c,by simp,by simp⟩
theorem half_step {x y : List Bool} {N M : Nat} (hs : x.length + y.length = N) (h2 : N ≤ 128) (hM : (N + 1) / 2 = M) (hc : M < x.length) (hx : x.length ≤ 64) :
    ∃x' c,x'++[c]=x∧x'.length<x.length∧x'.length≤64∧y.length<64∧(c::y).length≤64∧x'=x.take ((x.length:Int) - 1).toNat∧[c]=x.drop ((x.length:Int) - 1).toNat∧((x.length:Int)+(y.length:Int)+1)/2<(x.length:Int):=by
  obtain ⟨x',c,hxc,hxl⟩:=snoc_of (x:=x) (by omega)
  refine ⟨x',c,hxc,by omega,by omega,by omega,by simp;omega,?_,?_,by omega⟩
  · rw [show ((x.length:Int) - 1).toNat=x'.length by omega,←hxc];simp
  · rw [show ((x.length:Int) - 1).toNat=x'.length by omega,←hxc];simp
theorem half_step2 {x y : List Bool} {N M : Nat} (hs : x.length + y.length = N) (hM : (N + 1) / 2 = M) (hc : x.length < y.length) (hy : y.length ≤ 64) :
    ∃c y',c::y'=y∧y'.length<y.length∧x.length<64∧x.length+1≤M∧[c]=y.take (1:Int).toNat∧y'=y.drop (1:Int).toNat∧decide ((x.length:Int)<(y.length:Int))=true:=by
  cases y with
  | nil=>simp at hc
  | cons c y'=>exact ⟨c,y',rfl,by simp,by omega,by simp only [List.length_cons] at hs hc;omega,by simp,by simp,decide_eq_true (by omega)⟩
theorem tHalves_calls (a b : List Bool) (ha : a.length ≤ 64) (hb : b.length ≤ 64) (w : World) (hT : TB w tb ap t O) :
    Calls Tryz.prog 348 #[.pointer (some ⟨tb,0,none⟩), .agg #[.int .u64 (pack a:Int), .int .i64 (a.length:Int)], .agg #[.int .u64 (pack b:Int), .int .i64 (b.length:Int)]] w fun e w'=>e= .returned (.int .i64 (t.halves a b).1)∧DidT tb ap (t.halves a b).2 O w w':=by
  by_cases hfit:(a.length:Int)+b.length≤64
  · have e1:Hid (t.halves a b=t.leaf (a++b)):=Lib.hid (by unfold Tb.halves;rw [if_pos hfit])
    have hl:a.length+b.length≤64:=by omega
    have hlc:(a++b).length≤64:=by rw [List.length_append];omega
    clear hfit
    obtain ⟨c,hc⟩: ∃c,a++b=c:=⟨_,rfl⟩
    rw [hc] at hlc e1
    have Hc:=Lib.hid hc
    clear hc
    go_enter Tryz.func348,Tryz.ntmps348
    have hA:=hT.hA
    have kt:=hT.blk
    have o_kt:=hT.no
    have c_kt:=f3 kt;have l_ktw:=lt_of kt
    go_wp2_with fail
    refine cg fun V hV_V=> ?_
    have hF:=Fr.refl ((oneX tb)) O w
    refine nnf1 hV_V hA hF kt ?_;clear hA hF kt c_kt;intro hn_V z_V hA hF kt c_kt
    obtain ⟨ka,c_ka,o_ka,l_kaV⟩:=nN hn_V hV_V (w.heap.size)
    obtain ⟨kb,c_kb,o_kb,l_kbV⟩:=nN hn_V hV_V (w.heap.size+1)
    clear hV_V hn_V
    refine rC (join_at a b c hl _ _ _ _ rfl rfl rfl rfl Hc.out.symm _) fun W1 hb_W1=> ?_
    refine bef3 hb_W1 hA hF kt ka kb ?_;clear hb_W1 hA hF kt ka kb c_kt c_ka c_kb;intro z_W1 hA hF kt c_kt ka c_ka kb c_kb
    go_wp2_with fail
    refine cg fun V1 hV_V1=> ?_
    refine nnf1 hV_V1 hA hF kt ?_;clear hA hF kt c_kt c_ka c_kb ka kb;intro hn_V1 z_V1 hA hF kt c_kt
    obtain ⟨kl,c_kl,o_kl,l_klV1⟩:=nN hn_V1 hV_V1 (W1.heap.size)
    clear hV_V1 hn_V1
    refine tC (tLeaf_calls c hlc _ ⟨hA,kt,o_kt⟩) fun W2 O1 hT hf=> ?_
    refine ti1 hT.hA hT.blk hT.no hf hF kl o_kl ?_;clear hA hF kt c_kt o_kt kl o_kl c_kl hT hf;intro z_W2 hA hF kt c_kt o_kt kl c_kl o_kl
    go_wp2_with fail
    go_ret
    rw [e1.out]
    exact ⟨rfl,O1,⟨hA,kt,o_kt⟩,hF⟩
  · have e1:Hid (t.halves a b=t.two ((a++b).take ((a.length+b.length+1)/2)) ((a++b).drop ((a.length+b.length+1)/2))):=Lib.hid (by unfold Tb.halves;rw [if_neg hfit])
    obtain ⟨N,hN⟩: ∃N,a.length+b.length=N:=⟨_,rfl⟩
    obtain ⟨M,hM⟩: ∃M,(N+1)/2=M:=⟨_,rfl⟩
    obtain ⟨L,hL⟩: ∃L,a++b=L:=⟨_,rfl⟩
    rw [hN,hM,hL] at e1
    have HN:Hid (64<N∧N≤128∧L.length=N):=Lib.hid ⟨by omega,by omega,by rw [←hL,List.length_append,hN]⟩
    have HL:=Lib.hid hL;have HM:=Lib.hid hM
    have hjn:(false:Bool)=(true&&(true&&decide ((a.length:Int)+(b.length:Int)≤64))):=by simp;omega
    have HJ:=Lib.hid hjn
    clear hfit hN hM hL hjn
    go_enter Tryz.func348,Tryz.ntmps348
    have hA:=hT.hA
    have kt:=hT.blk
    have o_kt:=hT.no
    have c_kt:=f3 kt;have l_ktw:=lt_of kt
    go_wp2_with fail
    refine cg fun V hV_V=> ?_
    have hF:=Fr.refl ((oneX tb)) O w
    refine nnf1 hV_V hA hF kt ?_;clear hA hF kt c_kt;intro hn_V z_V hA hF kt c_kt
    obtain ⟨ka,c_ka,o_ka,l_kaV⟩:=nN hn_V hV_V (w.heap.size)
    obtain ⟨kb,c_kb,o_kb,l_kbV⟩:=nN hn_V hV_V (w.heap.size+1)
    clear hV_V hn_V
    refine rC (join_lf (lf_self ha) (lf_self hb) false [] HJ.out rfl _) fun W1 hb_W1=> ?_
    refine bef3 hb_W1 hA hF kt ka kb ?_;clear hb_W1 hA hF kt ka kb c_kt c_ka c_kb;intro z_W1 hA hF kt c_kt ka c_ka kb c_kb
    go_wp2_with fail
    refine wg fun V1 hV_V1=> ?_
    refine nef3 hV_V1 hA hF kt ka kb ?_;clear hA hF kt ka kb c_kt c_ka c_kb;intro z_V1 hA hF kt c_kt ka c_ka kb c_kb
    clear hV_V1
    have HF:=Lib.hid hF
    have hY: ∀x,twoX w.heap.size (w.heap.size+1) x→w.heap.size≤x:=by unfold twoX;intro x h;omega
    have HY:=Lib.hid hY
    clear hF hY
    go_loopg [9] a.length (fun k c9 wr=> ∃(x y:List Bool),x.length=k∧Hid (x++y=L∧x.length≤64∧y.length≤64)∧AP wr ap t.s O∧Hid (Fr (oneX tb) O O w wr)∧wr.heap[tb]? =some (.cells #[ap, .int .i64 t.e] 231 (0,0))∧wr.heap[w.heap.size]? =some (.cells #[.int .u64 (pack x:Int), .int .i64 (x.length:Int)] 302 (0,0))∧wr.heap[w.heap.size+1]? =some (.cells #[.int .u64 (pack y:Int), .int .i64 (y.length:Int)] 302 (0,0)))
    case atStart=>exact ⟨a,b,rfl,Lib.hid ⟨HL.out,ha,hb⟩,hA,HF,kt,ka,kb⟩
    case round=>
      clear hA HF kt ka kb c_kt c_ka c_kb
      obtain ⟨x,y,rfl,HXY,hA,HF,kt,ka,kb⟩:=hrel
      have hsum:x.length+y.length=N:=by have:=HXY.out.1;have h2:=HN.out.2.2;rw [←this,List.length_append] at h2;exact h2
      by_cases hc:M<x.length
      · obtain ⟨x',c,p1,p2,p3,hy64,p5,p7,p8,d1⟩:=half_step hsum HN.out.2.1 HM.out hc HXY.out.2.1
        have hx64:=HXY.out.2.1
        have g1:=Lib.hid p7;have g2:=Lib.hid p8;have Hk:Hid (x'.length<x.length):=Lib.hid p2
        have g3:Hid (c=getL [c] 0):=Lib.hid (by simp [getL])
        have g4:Hid (c::y=insL y (0:Int).toNat c):=Lib.hid (by simp [insL])
        have HNX:Hid (x'++(c::y)=L∧x'.length≤64∧(c::y).length≤64):=Lib.hid ⟨by rw [←HXY.out.1,←p1];simp,p3,p5⟩
        clear hsum p1 p2 p3 p5 p7 p8
        have hF:=Fr.refl ((twoX w.heap.size (w.heap.size+1))) O wr
        have c_kt:=f3 kt;have l_ktwr:=lt_of kt
        have c_ka:=f3 ka;have l_kawr:=lt_of ka
        have c_kb:=f3 kb;have l_kbwr:=lt_of kb
        go_wp2_with fail
        refine cg fun V2 hV_V2=> ?_
        refine nnf3 hV_V2 hA hF kt ka kb ?_;clear hA hF kt ka kb c_kt c_ka c_kb;intro hn_V2 z_V2 hA hF kt c_kt ka c_ka kb c_kb
        obtain ⟨kl,c_kl,o_kl,l_klV2⟩:=nN hn_V2 hV_V2 (wr.heap.size)
        clear hV_V2 hn_V2
        refine rC (split_at x hx64 x' [c] ((x.length:Int) - 1) g1.out g2.out _ _ rfl rfl _) fun W2 hb_W2=> ?_
        refine bef4 hb_W2 hA hF kt ka kb kl ?_;clear hb_W2 hA hF kt ka kb kl c_kt c_ka c_kb c_kl;intro z_W2 hA hF kt c_kt ka c_ka kb c_kb kl c_kl
        go_wp2_with fail
        refine wg fun V3 hV_V3=> ?_
        refine nef4 hV_V3 hA hF kt ka kb kl ?_;clear hA hF kt ka kb kl c_kt c_ka c_kb c_kl;intro z_V3 hA hF kt c_kt ka c_ka kb c_kb kl c_kl
        clear hV_V3
        refine tdr 7 (fun v=>Sm v V3 (tb)∧Sm v V3 (w.heap.size)∧Sm v V3 (w.heap.size+1)∧Sm v V3 (wr.heap.size)∧(V3.heap.size≤v.heap.size)∧True) ⟨fun _=>rfl,fun _=>rfl,fun _=>rfl,fun _=>rfl,Nat.le_refl _,trivial⟩ fun V3d hV_V3d hHeld=> ?_
        have v_kt:=c_kt.1;have v_ka:=c_ka.1;have v_kb:=c_kb.1;have v_kl:=c_kl.1
        refine nef4 hV_V3d hA hF kt ka kb kl ?_;clear hA hF kt ka kb kl c_kt c_ka c_kb c_kl;intro z_V3d hA hF kt c_kt ka c_ka kb c_kb kl c_kl
        clear hV_V3d
        refine tta 0 hHeld ?_
        refine tta 1 hHeld ?_
        refine trd 2 rfl fun K hK=> ?_
        go_simp
        try simp only [IntWalk.i64_left]
        refine rC (get_lf (lf_self (l:=[c]) (by simp)) 0 c g3.out _) fun W3 hb_W3=> ?_
        refine bef4 hb_W3 hA hF kt ka kb kl ?_;clear hb_W3 hA hF kt ka kb kl c_kt c_ka c_kb c_kl;intro z_W3 hA hF kt c_kt ka c_ka kb c_kb kl c_kl
        refine tho hK ⟨vv c_kt v_kt,vv c_ka v_ka,vv c_kb v_kb,vv c_kl v_kl,by omega,trivial⟩ fun hHeld=> ?_
        clear hK K
        refine trd 3 rfl fun K hK=> ?_
        go_simp
        try simp only [IntWalk.i64_left]
        refine rC (insert_at y (c::y) 0 c (by omega) (by omega) hy64 _ _ rfl rfl g4.out _) fun W4 hb_W4=> ?_
        refine bef4 hb_W4 hA hF kt ka kb kl ?_;clear hb_W4 hA hF kt ka kb kl c_kt c_ka c_kb c_kl;intro z_W4 hA hF kt c_kt ka c_ka kb c_kb kl c_kl
        refine tho hK ⟨vv c_kt v_kt,vv c_ka v_ka,vv c_kb v_kb,vv c_kl v_kl,by omega,trivial⟩ fun hHeld=> ?_
        clear hK K
        refine ttf 4 hHeld ?_
        refine ttf 5 hHeld ?_
        refine ttf 6 hHeld ?_
        refine tst 7 rfl fun K hK=> ?_
        go_simp
        refine ga (K:=K) fun D hV_D=> ?_
        refine nef4 hV_D hA hF kt ka kb kl ?_;clear hA hF kt ka kb kl c_kt c_ka c_kb c_kl;intro z_D hA hF kt c_kt ka c_ka kb c_kb kl c_kl
        clear hV_D
        refine thl hK ?_
        clear hK K
        go_wp2_with fail
        go_roundg x'.length
        case measure=>exact Hk.out
        case rel=>exact ⟨x',c::y,rfl,HNX,hA,Lib.hid (HF.out.trans_own hF HY.out),kt,ka,by simpa using kb⟩
      · have d1: ¬((x.length:Int)+(y.length:Int)+1)/2<(x.length:Int):=by have:=HM.out;omega
        have hx64:=HXY.out.2.1
        have hy64:=HXY.out.2.2
        have HSUM:=Lib.hid hsum
        have HC:Hid (x.length≤M):=Lib.hid (by omega)
        clear hsum hc
        have hF:=Fr.refl ((oneX tb)) O wr
        have c_kt:=f3 kt;have l_ktwr:=lt_of kt
        have c_ka:=f3 ka;have l_kawr:=lt_of ka
        have c_kb:=f3 kb;have l_kbwr:=lt_of kb
        go_wp2_with fail
        go_loopg [10] y.length (fun k c10 w2=> ∃(x2 y2:List Bool),y2.length=k∧Hid (x2++y2=L∧x2.length≤64∧y2.length≤64∧x2.length≤M)∧AP w2 ap t.s O∧Hid (Fr (oneX tb) O O w w2)∧w2.heap[tb]? =some (.cells #[ap, .int .i64 t.e] 231 (0,0))∧w2.heap[w.heap.size]? =some (.cells #[.int .u64 (pack x2:Int), .int .i64 (x2.length:Int)] 302 (0,0))∧w2.heap[w.heap.size+1]? =some (.cells #[.int .u64 (pack y2:Int), .int .i64 (y2.length:Int)] 302 (0,0)))
        case atStart=>exact ⟨x,y,rfl,Lib.hid ⟨HXY.out.1,hx64,hy64,HC.out⟩,hA,HF,kt,ka,kb⟩
        case round=>
          clear hA HF kt ka kb c_kt c_ka c_kb hF d1 hx64 hy64 HC HSUM HXY
          obtain ⟨x2,y2,rfl,HXY,hA,HF,kt,ka,kb⟩:=hrel
          have hsum:x2.length+y2.length=N:=by have:=HXY.out.1;have h2:=HN.out.2.2;rw [←this,List.length_append] at h2;exact h2
          by_cases hc:x2.length<y2.length
          · obtain ⟨c,y3,p1,p2,p3,p4,p5,p6,d1⟩:=half_step2 hsum HM.out hc HXY.out.2.2.1
            have hy64:=HXY.out.2.2.1
            have g1:=Lib.hid p5;have g2:=Lib.hid p6;have Hk:Hid (y3.length<y2.length):=Lib.hid p2
            have g3:Hid (c=getL [c] 0):=Lib.hid (by simp [getL])
            have g4:Hid (x2++[c]=insL x2 (x2.length:Int).toNat c):=Lib.hid (by simp [insL])
            have HNX:Hid ((x2++[c])++y3=L∧(x2++[c]).length≤64∧y3.length≤64∧(x2++[c]).length≤M):=Lib.hid ⟨by rw [←HXY.out.1,←p1];simp,by simp;omega,by omega,by simp;omega⟩
            clear hsum p1 p2 p4 p5 p6
            have hF:=Fr.refl ((twoX w.heap.size (w.heap.size+1))) O wr
            have c_kt:=f3 kt;have l_ktwr:=lt_of kt
            have c_ka:=f3 ka;have l_kawr:=lt_of ka
            have c_kb:=f3 kb;have l_kbwr:=lt_of kb
            go_wp2_with fail
            refine cg fun V2 hV_V2=> ?_
            refine nef3 hV_V2 hA hF kt ka kb ?_;clear hA hF kt ka kb c_kt c_ka c_kb;intro z_V2 hA hF kt c_kt ka c_ka kb c_kb
            clear hV_V2
            refine rC (split_at y2 hy64 [c] y3 1 g1.out g2.out _ _ rfl rfl _) fun W2 hb_W2=> ?_
            refine bef3 hb_W2 hA hF kt ka kb ?_;clear hb_W2 hA hF kt ka kb c_kt c_ka c_kb;intro z_W2 hA hF kt c_kt ka c_ka kb c_kb
            go_wp2_with fail
            refine wg fun V3 hV_V3=> ?_
            refine nnf3 hV_V3 hA hF kt ka kb ?_;clear hA hF kt ka kb c_kt c_ka c_kb;intro hn_V3 z_V3 hA hF kt c_kt ka c_ka kb c_kb
            obtain ⟨kf,c_kf,o_kf,l_kfV3⟩:=nN hn_V3 hV_V3 (W2.heap.size)
            obtain ⟨kr,c_kr,o_kr,l_krV3⟩:=nN hn_V3 hV_V3 (W2.heap.size+1)
            clear hV_V3 hn_V3
            refine tdr 9 (fun v=>Sm v V3 (tb)∧Sm v V3 (w.heap.size)∧Sm v V3 (w.heap.size+1)∧Sm v V3 (W2.heap.size)∧Sm v V3 (W2.heap.size+1)∧(V3.heap.size≤v.heap.size)∧True) ⟨fun _=>rfl,fun _=>rfl,fun _=>rfl,fun _=>rfl,fun _=>rfl,Nat.le_refl _,trivial⟩ fun V3d hV_V3d hHeld=> ?_
            have v_kt:=c_kt.1;have v_ka:=c_ka.1;have v_kb:=c_kb.1;have v_kf:=c_kf.1;have v_kr:=c_kr.1
            refine nef5 hV_V3d hA hF kt ka kb kf kr ?_;clear hA hF kt ka kb kf kr c_kt c_ka c_kb c_kf c_kr;intro z_V3d hA hF kt c_kt ka c_ka kb c_kb kf c_kf kr c_kr
            clear hV_V3d
            refine tta 0 hHeld ?_
            refine tta 1 hHeld ?_
            refine tta 2 hHeld ?_
            refine tta 3 hHeld ?_
            refine trd 4 rfl fun K hK=> ?_
            go_simp
            try simp only [IntWalk.i64_left]
            refine rC (get_lf (lf_self (l:=[c]) (by simp)) 0 c g3.out _) fun W3 hb_W3=> ?_
            refine bef5 hb_W3 hA hF kt ka kb kf kr ?_;clear hb_W3 hA hF kt ka kb kf kr c_kt c_ka c_kb c_kf c_kr;intro z_W3 hA hF kt c_kt ka c_ka kb c_kb kf c_kf kr c_kr
            refine tho hK ⟨vv c_kt v_kt,vv c_ka v_ka,vv c_kb v_kb,vv c_kf v_kf,vv c_kr v_kr,by omega,trivial⟩ fun hHeld=> ?_
            clear hK K
            refine trd 5 rfl fun K hK=> ?_
            go_simp
            try simp only [IntWalk.i64_left]
            refine rC (insert_at x2 (x2++[c]) (x2.length:Int) c (by omega) (by omega) p3 _ _ rfl rfl g4.out _) fun W4 hb_W4=> ?_
            refine bef5 hb_W4 hA hF kt ka kb kf kr ?_;clear hb_W4 hA hF kt ka kb kf kr c_kt c_ka c_kb c_kf c_kr;intro z_W4 hA hF kt c_kt ka c_ka kb c_kb kf c_kf kr c_kr
            refine tho hK ⟨vv c_kt v_kt,vv c_ka v_ka,vv c_kb v_kb,vv c_kf v_kf,vv c_kr v_kr,by omega,trivial⟩ fun hHeld=> ?_
            clear hK K
            refine ttf 6 hHeld ?_
            refine ttf 7 hHeld ?_
            refine ttf 8 hHeld ?_
            refine tst 9 rfl fun K hK=> ?_
            go_simp
            refine ga (K:=K) fun D hV_D=> ?_
            refine nef5 hV_D hA hF kt ka kb kf kr ?_;clear hA hF kt ka kb kf kr c_kt c_ka c_kb c_kf c_kr;intro z_D hA hF kt c_kt ka c_ka kb c_kb kf c_kf kr c_kr
            clear hV_D
            refine thl hK ?_
            clear hK K
            go_wp2_with fail
            refine handed_gen fun V5 hV_V5=> ?_
            refine nef3 hV_V5 hA hF kt ka kb ?_;clear hA hF kt ka kb c_kt c_ka c_kb c_kf c_kr kf kr;intro z_V5 hA hF kt c_kt ka c_ka kb c_kb
            clear hV_V5
            go_roundg y3.length
            case measure=>exact Hk.out
            case rel=>exact ⟨x2++[c],y3,rfl,HNX,hA,Lib.hid (HF.out.trans_own hF HY.out),kt,by simpa using ka,by simpa using kb⟩
          · have HX2 : Hid (x2 = L.take M ∧ y2 = L.drop M) := Lib.hid (by
              have e:x2.length=M:=by have:=HXY.out.2.2.2;have:=HM.out;omega
              rw [←HXY.out.1,←e];simp)
            have hx2:=HXY.out.2.1
            have hy2:=HXY.out.2.2.1
            have d1:decide ((x2.length:Int)<(y2.length:Int))=false:=by simpa using hc
            clear hsum
            have hF:=Fr.refl ((oneX tb)) O wr
            have c_kt:=f3 kt;have l_ktwr:=lt_of kt
            have c_ka:=f3 ka;have l_kawr:=lt_of ka
            have c_kb:=f3 kb;have l_kbwr:=lt_of kb
            go_wp2_with fail
            refine cg fun V6 hV_V6=> ?_
            refine nef2 hV_V6 hA hF kt kb ?_;clear hA hF kt kb c_kt c_ka c_kb ka;intro z_V6 hA hF kt c_kt kb c_kb
            clear hV_V6
            refine tC (tLeaf_calls x2 hx2 _ ⟨hA,kt,o_kt⟩) fun W6 O1 hT hf=> ?_
            refine ti1 hT.hA hT.blk hT.no hf hF kb o_kb ?_;clear hA hF kt c_kt o_kt kb o_kb c_kb hT hf;intro z_W6 hA hF kt c_kt o_kt kb c_kb o_kb
            go_wp2_with fail
            refine cg fun V7 hV_V7=> ?_
            refine nef1 hV_V7 hA hF kt ?_;clear hA hF kt c_kt c_kb kb;intro z_V7 hA hF kt c_kt
            clear hV_V7
            refine tC (tLeaf_calls y2 hy2 _ ⟨hA,kt,o_kt⟩) fun W7 O2 hT hf=> ?_
            refine ti0 hT.hA hT.blk hT.no hf hF ?_;clear hA hF kt c_kt o_kt hT hf;intro z_W7 hA hF kt c_kt o_kt
            go_wp2_with fail
            refine cg fun V8 hV_V8=> ?_
            refine nef1 hV_V8 hA hF kt ?_;clear hA hF kt c_kt;intro z_V8 hA hF kt c_kt
            clear hV_V8
            refine tC (tPairOr_calls _ _ _ ⟨hA,kt,o_kt⟩) fun W8 O3 hT hf=> ?_
            refine ti0 hT.hA hT.blk hT.no hf hF ?_;clear hA hF kt c_kt o_kt hT hf;intro z_W8 hA hF kt c_kt o_kt
            go_wp2_with fail
            go_ret
            rw [e1.out,←HX2.out.1,←HX2.out.2]
            exact ⟨rfl,O3,⟨hA,kt,o_kt⟩,HF.out.trans hF⟩
end
section
open Go.RowKit
section
variable {P : Program} {ops : Array Oper} {Q : Exit → Act → World → Prop} {md : Region.Mode} {S : World → Prop} {n : Nat}
def wpAnyE (P:Program) (md:Region.Mode) (ops:Array Oper) (Q:Exit→Act→World→Prop) (S:World→Prop) (n:Nat):Nat→Array Bool→Act→World→Prop
  | 0,listed,a,w=>Region.ready md ops listed=[]∧Q .normal a w
  | fuel+1,listed,a,w=>
    (Region.ready md ops listed=[]→Q .normal a w)∧
    ∀i∈Region.ready md ops listed,wpOp P ops Q i (fun a' w'=>((listed.setIfInBounds i true).getD n false=false→S w')∧ ∀w2,Below w'.heap.size w' w2→wpAnyE P md ops Q S n fuel (listed.setIfInBounds i true) a' w2) a w
theorem wpAny_of_E: ∀(fuel:Nat) (listed:Array Bool) (a:Act) (w:World),wpAnyE P md ops Q S n fuel listed a w→wpAny P md ops Q fuel listed a w
  | 0,_,_,_,h=>h
  | fuel+1,_,_,_,h=>⟨h.1,fun i hi=>wpOp_mono (fun a' w' h'=>wpAny_of_E fuel _ a' w' (h'.2 w' (Below.refl _ _))) (h.2 i hi)⟩
def WE (P:Program) (md:Region.Mode) (ops:Array Oper) (Q:Exit→Act→World→Prop) (S:World→Prop) (n fuel:Nat) (listed:Array Bool) (a:Act) (w:World):Prop:=Cl md ops listed→wpAnyE P md ops Q S n fuel listed a w
structure IdleE (P:Program) (ops:Array Oper) (Q:Exit→Act→World→Prop) (S:World→Prop) (i:Nat) (oi:Oper) (v:Value) (a:Act):Prop where
  run: ∀a',execOp a'.eval oi=execOp a.eval oi→Region.wanted oi (yielded ops a'.tmps)=Region.wanted oi (yielded ops a.tmps)→ ∀K w,S w→(∀w2,Below w.heap.size w w2→K (a'.put oi.dst v) w2)→wpOp P ops Q i K a' w
theorem grow_first {i : Nat} {oi : Oper} {v : Value} (hi : ops[i]? = some oi) (hin : i ≠ n) {S' : World → Prop} (hS' : (∀ w, S' w) ∨ (S' = S ∧ (ops.size ≤ n ∨ ∃ f, ancB md ops f n i = true))) (hSc : ∀ w w2, S w → Below w.heap.size w w2 → S w2) (hsel : ∀ (j : Nat) (o : Oper) cs b, ops[j]? = some o → o.op ≠ .select cs b) (hQ : ∀ c a w, Q (.panic c) (a.put oi.dst v) w → Q (.panic c) a w)
    {a0:Act} (hy:IdleE P ops Q S' i oi v a0): ∀(fuel:Nat) (listed:Array Bool) (a:Act) (w:World),Cl md ops listed→(execOp a.eval oi=execOp a0.eval oi∧Region.wanted oi (yielded ops a.tmps)=Region.wanted oi (yielded ops a0.tmps))→
      (∀j oj,ops[j]? =some oj→j≠i→listed.getD j true=false→(∀e∈oj.after,Region.binds md e=true→e.on≠i)→oi.apart ops oj=true)→
      i∈Region.ready md ops listed→(listed.getD n false=false→S w)→S' w→(∀w2,Below w.heap.size w w2→wpAnyE P md ops Q S n fuel (listed.setIfInBounds i true) (a.put oi.dst v) w2)→wpAnyE P md ops Q S n (fuel+1) listed a w
  | fuel,listed,a,w,inv,hz,hfree,hr,hSw,hS,H=>by
    refine ⟨fun h=>(by rw [h] at hr;cases hr),fun j hj=> ?_⟩
    by_cases hji:j=i
    · subst hji
      exact hy.run a hz.1 hz.2 _ w hS fun w2 hb=>⟨fun q=>hSc w w2 (hSw (by rw [getD_set_ne false hin] at q;exact q)) hb,fun w3 hb3=>H w3 (below_step hb hb3)⟩
    · have hjr:j∈Region.ready md ops (listed.setIfInBounds i true):=ready_mono hj hji
      have H0:=H w (Below.refl _ _)
      cases fuel with
      | zero=>rw [H0.1] at hjr;cases hjr
      | succ fuel=>
        obtain ⟨hjun,oj,hoj,hall⟩:=mem_ready.1 hj
        have hi0:=(mem_ready.1 hr).1
        have hno: ∀e∈oj.after,Region.binds md e=true→e.on≠i:=fun e he hb heq=>by
          have h1:=hall e he hb
          rw [heq] at h1
          by_cases hlt:i<listed.size
          · simp [hlt] at hi0 h1;rw [hi0] at h1;cases h1
          · simp [Array.getElem?_eq_none (Nat.le_of_not_lt hlt)] at h1
        have hap:=hfree j oj hoj hji hjun hno
        have h3:=(Oper.apart_spec hap).2.2
        have hsi:=fun cs b=>hsel i oi cs b hi
        refine wpOp_mono ?_ (op_carry (Z:=fun a=>execOp a.eval oi=execOp a0.eval oi∧Region.wanted oi (yielded ops a.tmps)=Region.wanted oi (yielded ops a0.tmps)) hoj hap (fun cs b=>hsel j oj cs b hoj) hQ
          (fun a u hz=>⟨(execOp_put oi hsi a oj.dst u h3).trans hz.1,(wanted_put oi a oj.dst u h3).trans hz.2⟩) (fun _ _ hz=>hz) hz (H0.2 j hjr))
        rintro a' w' ⟨hz',hS2,hk⟩
        have hSn:(listed.setIfInBounds j true).getD n false=false→S w':=fun q=>hS2 (by
          rw [Array.setIfInBounds_comm _ _ (Ne.symm hji),getD_set_ne false hin];exact q)
        have hS3:S' w':=by
          rcases hS' with h|⟨rfl,h⟩
          · exact h w'
          · refine hSn ?_
            rcases h with h|⟨f,hf⟩
            · have:listed.size≤n:=by rw [inv.size];exact h
              simp [Array.getElem?_eq_none,this]
            · obtain ⟨b1,b2⟩:=anc_not inv (getD_both hi0) f n hf
              have hnj:j≠n:=fun e=>b2 (e▸hj)
              rw [getD_set_ne false hnj]
              exact b1
        have hSc': ∀w2,Below w'.heap.size w' w2→S' w2:=fun w2 hb=>by
          rcases hS' with h|⟨rfl, -⟩
          · exact h w2
          · exact hSc _ _ hS3 hb
        refine ⟨hSn,fun w2 hb2=>grow_first hi hin hS' hSc hsel hQ hy fuel (listed.setIfInBounds j true) a' w2 (inv.set hj) hz' (fun k ok hk hki hun hno=> ?_) (ready_mono hr (Ne.symm hji)) (fun q=>hSc _ _ (hSn q) hb2) (hSc' w2 hb2) fun w3 hb3=> ?_⟩
        · refine hfree k ok hk hki ?_ hno
          by_cases hjk:j=k
          · subst hjk;exact hjun
          · rwa [getD_set_ne true hjk] at hun
        · rw [Array.setIfInBounds_comm _ _ hji];exact hk w3 (below_step hb2 hb3)
variable {i : Nat} {oi : Oper} {tl : List Oper} {fuel : Nat} {listed : Array Bool} {a a' : Act} {w : World}
theorem idleE_pure {S':World→Prop} {v:Value} (hi:ops.toList.drop i=oi::tl) (hw:Region.wanted oi (yielded ops a.tmps)=true) (hy: ∀w,S' w→(execOp a.eval oi).run P w= .ok (.value v) w):IdleE P ops Q S' i oi v a:=
  ⟨fun a2 he hwa K w2 hS2 hK=>by
    unfold wpOp
    rw [at_drop hi]
    dsimp only
    rw [hwa,hw,if_pos rfl]
    left
    unfold Oper.wp
    rw [he,hy w2 hS2]
    exact hK w2 (Below.refl _ _)⟩
theorem idleE_call {S':World→Prop} {v:Value} {f:FuncId} {args:Array Value} (hi:ops.toList.drop i=oi::tl) (hw:Region.wanted oi (yielded ops a.tmps)=true) (hy: ∀w,S' w→(execOp a.eval oi).run P w= .ok (.enter f args) w) (hc: ∀w,S' w→Calls P f args w fun e w'=>e= .returned v∧Below w.heap.size w w'):IdleE P ops Q S' i oi v a:=
  ⟨fun a2 he hwa K w2 hS2 hK=>by
    unfold wpOp
    rw [at_drop hi]
    dsimp only
    rw [hwa,hw,if_pos rfl]
    left
    unfold Oper.wp
    rw [he,hy w2 hS2]
    refine (hc w2 hS2).mono ?_
    rintro e w3 ⟨rfl,hb⟩
    exact hK w3 hb⟩
theorem eta (i : Nat) {v : Value} (hSc : ∀ w w2, S w → Below w.heap.size w w2 → S w2) (hS : S w) (h : ∀ w2, Below w.heap.size w w2 → S w2 → WE P md ops Q S n fuel (listed.setIfInBounds i true) a' w2)
    (hi:ops.toList.drop i=oi::tl:=by rfl)
    (hy: ∀w,S w→(execOp a.eval oi).run P w= .ok (.value v) w:=by (intro w hSw;go_simp;(try simp only [IntWalk.i64_left]);try (with_reducible rfl)))
    (e:a.put oi.dst v=a':=by ((try simp only [PT]);rfl))
    (hs:Region.noSelect ops=true:=by kernel_rfl) (hf:Region.free md ops listed i=true:=by kernel_rfl) (hr:(Region.ready md ops listed).contains i=true:=by kernel_rfl) (hk:(decide (ops.size≤n)||ancB md ops ops.size n i)=true:=by kernel_rfl) (hin:decide (i=n)=false:=by kernel_rfl)
    (hQ: ∀c a w,Q (.panic c) (a.put oi.dst v) w→Q (.panic c) a w:=by exact fun _ _ _ h=>h) (hw:Region.wanted oi (yielded ops a.tmps)=true:=by rfl):WE P md ops Q S n (fuel+1) listed a w:=fun inv=>by
  have hr':i∈Region.ready md ops listed:=by simpa using hr
  have hk':ops.size≤n∨ ∃f,ancB md ops f n i=true:=by
    rw [Bool.or_eq_true,decide_eq_true_eq] at hk
    exact hk.imp id fun h=>⟨_,h⟩
  exact grow_first (at_drop hi) (of_decide_eq_false hin) (S':=S) (.inr ⟨rfl,hk'⟩) hSc (Region.noSelect_spec hs) hQ (a0:=a) (idleE_pure hi hw hy) fuel listed a w inv ⟨rfl,rfl⟩ (Region.free_spec (at_drop hi) hf) hr' (fun _=>hS) hS fun w2 hb=>by rw [e];exact h w2 hb (hSc _ _ hS hb) (inv.set hr')
theorem eca (i : Nat) {v : Value} {f : FuncId} {args : Array Value} (hSc : ∀ w w2, S w → Below w.heap.size w w2 → S w2) (hS : S w) (hy : ∀ w, S w → (execOp a.eval oi).run P w = .ok (.enter f args) w) (hc : ∀ w, S w → Calls P f args w fun e w' => e = .returned v ∧ Below w.heap.size w w') (h : ∀ w2, Below w.heap.size w w2 → S w2 → WE P md ops Q S n fuel (listed.setIfInBounds i true) a' w2)
    (hi:ops.toList.drop i=oi::tl:=by rfl)
    (e:a.put oi.dst v=a':=by ((try simp only [PT]);rfl))
    (hs:Region.noSelect ops=true:=by kernel_rfl) (hf:Region.free md ops listed i=true:=by kernel_rfl) (hr:(Region.ready md ops listed).contains i=true:=by kernel_rfl) (hk:(decide (ops.size≤n)||ancB md ops ops.size n i)=true:=by kernel_rfl) (hin:decide (i=n)=false:=by kernel_rfl)
    (hQ: ∀c a w,Q (.panic c) (a.put oi.dst v) w→Q (.panic c) a w:=by exact fun _ _ _ h=>h) (hw:Region.wanted oi (yielded ops a.tmps)=true:=by rfl):WE P md ops Q S n (fuel+1) listed a w:=fun inv=>by
  have hr':i∈Region.ready md ops listed:=by simpa using hr
  have hk':ops.size≤n∨ ∃f,ancB md ops f n i=true:=by
    rw [Bool.or_eq_true,decide_eq_true_eq] at hk
    exact hk.imp id fun h=>⟨_,h⟩
  exact grow_first (at_drop hi) (of_decide_eq_false hin) (S':=S) (.inr ⟨rfl,hk'⟩) hSc (Region.noSelect_spec hs) hQ (a0:=a) (idleE_call hi hw hy hc) fuel listed a w inv ⟨rfl,rfl⟩ (Region.free_spec (at_drop hi) hf) hr' (fun _=>hS) hS fun w2 hb=>by rw [e];exact h w2 hb (hSc _ _ hS hb) (inv.set hr')
theorem erd {rs : List Nat} (hr : Region.ready md ops listed = rs) (hne : rs ≠ [])
    (h: ∀i∈rs,wpOp P ops Q i (fun a' w'=>S w'∧ ∀w2,Below w'.heap.size w' w2→WE P md ops Q S n fuel (listed.setIfInBounds i true) a' w2) a w):WE P md ops Q S n (fuel+1) listed a w:=fun inv=>
  ⟨fun h0=>absurd (hr▸h0) hne,fun i hi=>wpOp_mono (fun a' w' h'=>⟨fun _=>h'.1,fun w2 hb=>h'.2 w2 hb (inv.set hi)⟩) (h i (hr▸hi))⟩
theorem eall {rs : List Nat} (ho : ops.toList.drop i = oi :: tl)
    (h: ∀K':Act→World→Prop,Shut (∀a w,S w→(∀w2,Below w.heap.size w w2→WE P md ops Q S n fuel (listed.setIfInBounds i true) a w2)→K' a w)→if Region.wanted oi (yielded ops a.tmps)=true then Oper.wp P oi a w K' Q else K' (a.put oi.dst undef) w)
    (hs: ∀j∈rs,wpOp P ops Q j (fun a' w'=>S w'∧ ∀w2,Below w'.heap.size w' w2→WE P md ops Q S n fuel (listed.setIfInBounds j true) a' w2) a w): ∀j∈i::rs,wpOp P ops Q j (fun a' w'=>S w'∧ ∀w2,Below w'.heap.size w' w2→WE P md ops Q S n fuel (listed.setIfInBounds j true) a' w2) a w:=fun j hj=>by
  rcases List.mem_cons.1 hj with rfl|hj
  · exact wpOp_step (at_drop ho) (fun K' hK=>h K' (fun a w hS hW=>hK a w ⟨hS,hW⟩))
  · exact hs j hj
theorem eho {K:Act→World→Prop} (hK:Shut (∀a w,S w→(∀w2,Below w.heap.size w w2→WE P md ops Q S n fuel listed a w2)→K a w)) (hS:S w) (h: ∀w2,Below w.heap.size w w2→WE P md ops Q S n fuel listed a' w2) (e:a=a':=by ((try simp only [PT]);rfl)):K a w:=by subst e;exact hK.out _ _ hS h
theorem HeldB.ext (W:World): ∀w w2,HeldB W w→Below w.heap.size w w2→HeldB W w2:=fun _ _ h hb=>HeldB.call h hb
theorem ewd (h:Q .normal a w) (hr:Region.ready md ops listed=[]:=by kernel_rfl):WE P md ops (NoPanic Q) S n fuel listed a w:=fun _=>by
  cases fuel with
  | zero=>exact ⟨hr,NoPanic.normal h⟩
  | succ fuel=>exact ⟨fun _=>NoPanic.normal h,by rw [hr];simp⟩
theorem edr {id:Nat} (n:Nat) (S:World→Prop) (hS:S w.drew) (h: ∀D,D=w.drew→S D→WE P .any ops (NoPanic Q) S n ops.size (Array.replicate ops.size false) a D) (hm:P.follows .mixedOrders=true:=by kernel_rfl):(Code.region id ops true).wp P Q a w:=by
  refine wp_region_noPanic (wp_region_any hm (wpAny_of_E _ _ _ _ (h _ rfl hS ⟨by simp,fun j oj _ hl=> ?_⟩)))
  rw [getD_replicate_false] at hl;cases hl
end
end
section
open Go.RowKit
attribute [local go_sem ↓] Go.wp_at_zero Go.wp_at_succ
attribute [local go_sem] lt_s2 lt_s3 lt_s4
variable {ap : Value} {O : Nat → Prop} {tb : Nat} {t : Tb}
theorem tSmall_calls (h : Int) (w : World) (hT : TB w tb ap t O) :
    Calls Tryz.prog 333 #[.pointer (some ⟨tb,0,none⟩), .int .i64 h] w fun e w'=>e= .returned (.bool (Tb.small t.s h))∧Below w.heap.size w w':=by
  cases h1:bIs t.s h with
  | false=>
    have hr:Tb.small t.s h=false:=by unfold Tb.small;rw [h1];rfl
    rw [hr]
    clear hr
    go_enter Tryz.func333,Tryz.ntmps333
    have hA:=hT.hA
    have kt:=hT.blk
    have o_kt:=hT.no
    have c_kt:=f3 kt;have l_ktw:=lt_of kt
    go_wp2_with fail
    refine cg fun V hV_V=> ?_
    have hB:=Below.refl w.heap.size w
    refine nea1 hV_V hA hB kt ?_;clear hA hB kt c_kt;intro z_V hA hB kt c_kt
    clear hV_V
    refine rC (bRow_calls _ _ hA) fun W1 hb_W1=> ?_
    refine bea1 hb_W1 hA hB kt ?_;clear hb_W1 hA hB kt c_kt;intro z_W1 hA hB kt c_kt
    unfold Nd.val
    rw [h1]
    go_wp2_with fail
    go_ret
    exact ⟨rfl,bel⟩
  | true=>
    by_cases h2:(t.s.get h).tag=1
    · have hr:Tb.small t.s h=decide ((t.s.get h).b<16):=by unfold Tb.small;rw [h1,decide_eq_true h2];rfl
      have d2:((t.s.get h).tag==1)=true:=by simpa using h2
      rw [hr]
      clear hr h2
      go_enter Tryz.func333,Tryz.ntmps333
      have hA:=hT.hA
      have kt:=hT.blk
      have o_kt:=hT.no
      have c_kt:=f3 kt;have l_ktw:=lt_of kt
      go_wp2_with fail
      refine cg fun V hV_V=> ?_
      have hB:=Below.refl w.heap.size w
      refine nea1 hV_V hA hB kt ?_;clear hA hB kt c_kt;intro z_V hA hB kt c_kt
      clear hV_V
      refine rC (bRow_calls _ _ hA) fun W1 hb_W1=> ?_
      refine bea1 hb_W1 hA hB kt ?_;clear hb_W1 hA hB kt c_kt;intro z_W1 hA hB kt c_kt
      unfold Nd.val
      rw [h1]
      go_wp2_with fail
      go_ret
      exact ⟨rfl,bel⟩
    · have hr:Tb.small t.s h=false:=by unfold Tb.small;rw [h1,decide_eq_false h2];rfl
      have d2:((t.s.get h).tag==1)=false:=by simpa using h2
      rw [hr]
      clear hr h2
      go_enter Tryz.func333,Tryz.ntmps333
      have hA:=hT.hA
      have kt:=hT.blk
      have o_kt:=hT.no
      have c_kt:=f3 kt;have l_ktw:=lt_of kt
      go_wp2_with fail
      refine cg fun V hV_V=> ?_
      have hB:=Below.refl w.heap.size w
      refine nea1 hV_V hA hB kt ?_;clear hA hB kt c_kt;intro z_V hA hB kt c_kt
      clear hV_V
      refine rC (bRow_calls _ _ hA) fun W1 hb_W1=> ?_
      refine bea1 hb_W1 hA hB kt ?_;clear hb_W1 hA hB kt c_kt;intro z_W1 hA hB kt c_kt
      unfold Nd.val
      rw [h1]
      go_wp2_with fail
      go_ret
      exact ⟨rfl,bel⟩
theorem bits_val {a n:Int} (hU:U64 a) (h:lfOk a n=true):a=(pack (lfL a n):Int)∧n=((lfL a n).length:Int)∧(lfL a n).length≤64:=by
  obtain ⟨B,hB,hL⟩:=lf_of a n hU
  rw [h] at hL
  rcases hL with ⟨-,h1,h2,h3⟩|⟨h1, -⟩
  · exact ⟨hB.trans (congrArg (fun z:Nat=>(z:Int)) h2),h3,h1⟩
  · cases h1
theorem bits_l (n:Nd) (l:List Bool) (h1:n.a=(pack l:Int)) (h2:wrap64 n.b=(l.length:Int)) (w:World):Calls Tryz.prog 259 #[n.val] w fun e w'=>e= .returned (.agg #[.int .u64 (pack l:Int), .int .i64 (l.length:Int)])∧Below w.heap.size w w':=by
  have:=bBits_calls n w
  rw [h1,h2] at this
  exact this
theorem tPour_calls (ahead : Bool) (sm : Int) : ∀ (k : Nat) (t : Tb) (O : Nat → Prop) (h : Int) (r : Int × Tb) (w : World), Tb.pourG k t h sm ahead = some r → TB w tb ap t O →
    Calls Tryz.prog 334 #[.pointer (some ⟨tb,0,none⟩), .int .i64 h, .int .i64 sm, .bool ahead] w fun e w'=>e= .returned (.int .i64 r.1)∧DidT tb ap r.2 O w w'
  | 0,t,O,h,r,w,hr,hT=>by cases hr
  | k+1,t,O,h,r,w,hr,hT=>by
    unfold Tb.pourG at hr
    by_cases h1:(t.s.get h).tag=1
    · have d1:((t.s.get h).tag==1)=true:=by simpa using h1
      rw [if_pos h1] at hr
      by_cases hk:lfK (t.s.get h)=true∧lfK (t.s.get sm)=true
      rotate_left
      · rw [if_neg hk] at hr;cases hr
      rw [if_pos hk] at hr
      obtain ⟨x,hx⟩: ∃x,lfB (t.s.get h)=x:=⟨_,rfl⟩
      obtain ⟨y,hy⟩: ∃y,lfB (t.s.get sm)=y:=⟨_,rfl⟩
      obtain ⟨a1,a2,a3⟩:=bits_val (hT.hA.1.get64 h) hk.1
      obtain ⟨b1,b2,b3⟩:=bits_val (hT.hA.1.get64 sm) hk.2
      rw [show lfL (t.s.get h).a (wrap64 (t.s.get h).b)=x from hx] at a1 a2 a3
      rw [show lfL (t.s.get sm).a (wrap64 (t.s.get sm).b)=y from hy] at b1 b2 b3
      rw [hx,hy] at hr
      have Hr:=Lib.hid hr;have A1:=Lib.hid a1;have A2:=Lib.hid a2;have B1:=Lib.hid b1;have B2:=Lib.hid b2
      clear hr h1 hk hx hy a1 a2 b1 b2
      go_enter Tryz.func334,Tryz.ntmps334
      have hA:=hT.hA
      have kt:=hT.blk
      have o_kt:=hT.no
      have c_kt:=f3 kt;have l_ktw:=lt_of kt
      go_wp2_with fail
      refine cg fun V hV_V=> ?_
      have hF:=Fr.refl ((oneX tb)) O w
      refine nef1 hV_V hA hF kt ?_;clear hA hF kt c_kt;intro z_V hA hF kt c_kt
      clear hV_V
      refine rC (bRow_calls _ _ hA) fun W1 hb_W1=> ?_
      refine bef1 hb_W1 hA hF kt ?_;clear hb_W1 hA hF kt c_kt;intro z_W1 hA hF kt c_kt
      unfold Nd.val
      go_wp2_with fail
      refine cg fun V1 hV_V1=> ?_
      refine nnf1 hV_V1 hA hF kt ?_;clear hA hF kt c_kt;intro hn_V1 z_V1 hA hF kt c_kt
      obtain ⟨kn,c_kn,o_kn,l_knV1⟩:=nN hn_V1 hV_V1 (W1.heap.size)
      clear hV_V1 hn_V1
      refine rC (bRow_calls _ _ hA) fun W2 hb_W2=> ?_
      refine bef2 hb_W2 hA hF kt kn ?_;clear hb_W2 hA hF kt kn c_kt c_kn;intro z_W2 hA hF kt c_kt kn c_kn
      unfold Nd.val
      go_wp2_with fail
      refine wg fun V2 hV_V2=> ?_
      refine nnf2 hV_V2 hA hF kt kn ?_;clear hA hF kt kn c_kt c_kn;intro hn_V2 z_V2 hA hF kt c_kt kn c_kn
      obtain ⟨kx,c_kx,o_kx,l_kxV2⟩:=nN hn_V2 hV_V2 (W2.heap.size)
      clear hV_V2 hn_V2
      refine edr 8 (fun v=>HeldB V2 v) (HeldB.start V2) fun X hX hHeld=> ?_
      clear hX
      refine eta 0 (HeldB.ext V2) hHeld fun X hX hHeld=> ?_
      clear hX
      refine eca 1 (f:= ?_) (args:= ?_) (v:= ?_) (HeldB.ext V2) hHeld ?_ (fun v hSv=> ?_) fun X hX hHeld=> ?_
      rotate_left 3
      focus (intro v hSv;go_simp;constructor<;>with_reducible rfl)
      focus (exact bits_l (t.s.get h) x A1.out A2.out v)
      clear hX
      refine eta 2 (HeldB.ext V2) hHeld fun X hX hHeld=> ?_
      clear hX
      refine eca 3 (f:= ?_) (args:= ?_) (v:= ?_) (HeldB.ext V2) hHeld ?_ (fun v hSv=> ?_) fun X hX hHeld=> ?_
      rotate_left 3
      focus (intro v hSv;go_simp;constructor<;>with_reducible rfl)
      focus (exact bits_l (t.s.get sm) y B1.out B2.out v)
      clear hX
      have gX:=hHeld.2.1
      refine erd (rs:=[4,5]) (by kernel_rfl) (by simp) (eall rfl (fun K hK=> ?_) (eall rfl (fun K hK=> ?_) (fun _ h=>by cases h)))
      go_simp
      refine ga (K:=K) fun D hD=> ?_
      have hb1:HeldB V2 D:=by rw [hD];exact HeldB.alloc hHeld _
      have k13:D.heap[X.heap.size]? =some (.cells #[.int .u64 0, .int .i64 0] 302 (0,0)):=by rw [hD];exact blk_new _ _ _ rfl
      refine eho hK hb1 fun Y hY=> ?_
      replace k13:=keep_blk hY k13
      obtain ⟨p13,hp⟩: ∃p,X.heap.size=p:=⟨_,rfl⟩
      rw [hp] at k13 gX⊢
      have g1:=gX
      clear hD hK K hHeld gX hp
      have hHeld:=HeldB.call hb1 hY
      clear hb1 hY
      refine erd (rs:=[5]) (by kernel_rfl) (by simp) (eall rfl (fun K hK=> ?_) (fun _ h=>by cases h))
      go_simp
      refine ga (K:=K) fun D2 hD=> ?_
      have hb1:HeldB V2 D2:=by rw [hD];exact HeldB.alloc hHeld _
      have k14:D2.heap[Y.heap.size]? =some (.cells #[.int .u64 0, .int .i64 0] 302 (0,0)):=by rw [hD];exact blk_new _ _ _ rfl
      have lY:=lt_of k13
      have gY:=hHeld.2.1
      replace k13:D2.heap[p13]? =some (.cells #[.int .u64 0, .int .i64 0] 302 (0,0)):=by rw [hD];exact (blk_old _ _ _ lY).trans k13
      refine eho hK hb1 fun Y2 hY=> ?_
      replace k13:=keep_blk hY k13
      replace k14:=keep_blk hY k14
      obtain ⟨p14,hp⟩: ∃p,Y.heap.size=p:=⟨_,rfl⟩
      rw [hp] at k14 lY gY⊢
      have hne:p13≠p14:=by omega
      have hge:V2.heap.size≤p13∧V2.heap.size≤p14:=by omega
      clear hD hK K hHeld hp lY gY g1
      have hHeld:=HeldB.call hb1 hY
      clear hb1 hY
      rotate_left
      go_simp
      refine ga (K:=K) fun D hD=> ?_
      have hb1:HeldB V2 D:=by rw [hD];exact HeldB.alloc hHeld _
      have k14:D.heap[X.heap.size]? =some (.cells #[.int .u64 0, .int .i64 0] 302 (0,0)):=by rw [hD];exact blk_new _ _ _ rfl
      refine eho hK hb1 fun Y hY=> ?_
      replace k14:=keep_blk hY k14
      obtain ⟨p14,hp⟩: ∃p,X.heap.size=p:=⟨_,rfl⟩
      rw [hp] at k14 gX⊢
      have g1:=gX
      clear hD hK K hHeld gX hp
      have hHeld:=HeldB.call hb1 hY
      clear hb1 hY
      refine erd (rs:=[4]) (by kernel_rfl) (by simp) (eall rfl (fun K hK=> ?_) (fun _ h=>by cases h))
      go_simp
      refine ga (K:=K) fun D2 hD=> ?_
      have hb1:HeldB V2 D2:=by rw [hD];exact HeldB.alloc hHeld _
      have k13:D2.heap[Y.heap.size]? =some (.cells #[.int .u64 0, .int .i64 0] 302 (0,0)):=by rw [hD];exact blk_new _ _ _ rfl
      have lY:=lt_of k14
      have gY:=hHeld.2.1
      replace k14:D2.heap[p14]? =some (.cells #[.int .u64 0, .int .i64 0] 302 (0,0)):=by rw [hD];exact (blk_old _ _ _ lY).trans k14
      refine eho hK hb1 fun Y2 hY=> ?_
      replace k14:=keep_blk hY k14
      replace k13:=keep_blk hY k13
      obtain ⟨p13,hp⟩: ∃p,Y.heap.size=p:=⟨_,rfl⟩
      rw [hp] at k13 lY gY⊢
      have hne:p13≠p14:=by omega
      have hge:V2.heap.size≤p13∧V2.heap.size≤p14:=by omega
      clear hD hK K hHeld hp lY gY g1
      have hHeld:=HeldB.call hb1 hY
      clear hb1 hY
      iterate 2
        (have c13:=f3 k13
         have c14:=f3 k14
         refine erd (rs:=[6]) (by kernel_rfl) (by simp) (eall rfl (fun K hK=> ?_) (fun _ h=>by cases h))
         go_simp
         refine ga (K:=K) fun D3 hD=> ?_
         have hb1:HeldB V2 D3:=HeldB.low hHeld (nB hD)
         replace k13:=kK hD k13
         replace k14:=kK hD k14
         clear c13 c14 hD
         refine eho hK hb1 fun Y3 hY=> ?_
         replace k13:=keep_blk hY k13
         replace k14:=keep_blk hY k14
         clear hK K hHeld
         have hHeld:=HeldB.call hb1 hY
         clear hb1 hY
         have c13:=f3 k13
         have c14:=f3 k14
         refine erd (rs:=[7]) (by kernel_rfl) (by simp) (eall rfl (fun K hK=> ?_) (fun _ h=>by cases h))
         go_simp
         refine ga (K:=K) fun D4 hD=> ?_
         have hb1:HeldB V2 D4:=HeldB.low hHeld (nB hD)
         replace k13:=kK hD k13
         replace k14:=kK hD k14
         clear c13 c14 hD
         refine eho hK hb1 fun Y4 hY=> ?_
         replace k13:=keep_blk hY k13
         replace k14:=keep_blk hY k14
         clear hK K hHeld
         have hHeld:=HeldB.call hb1 hY
         clear hb1 hY
         refine ewd ?_
         have o_k13: ¬O p13:=hA.new hge.1
         have o_k14: ¬O p14:=hA.new hge.2
         have hb_Y4:=hHeld.1
         clear hHeld
         refine bef3 hb_Y4 hA hF kt kn kx ?_;clear hb_Y4 hA hF kt kn kx c_kt c_kn c_kx;intro z_Y4 hA hF kt c_kt kn c_kn kx c_kx
         have c_k13:=f3 k13;have l_k13Y4:=lt_of k13
         have c_k14:=f3 k14;have l_k14Y4:=lt_of k14
         go_wp2_with fail
         refine cg fun V3 hV_V3=> ?_
         refine nnf3 hV_V3 hA hF kt k13 k14 ?_;clear hA hF kt k13 k14 c_kt c_kn c_kx c_k13 c_k14 kn kx;intro hn_V3 z_V3 hA hF kt c_kt k13 c_k13 k14 c_k14
         obtain ⟨kl,c_kl,o_kl,l_klV3⟩:=nN hn_V3 hV_V3 (Y4.heap.size)
         clear hV_V3 hn_V3
         refine tC (tDrop_calls [h,sm] Y4.heap.size 0 2 _ _ (by simp) _ ⟨hA,kt,o_kt⟩ kl (two_cell h sm) o_kl (by omega) 2 rfl) fun W3 O1 hT hf=> ?_
         refine ti3 hT.hA hT.blk hT.no hf hF k13 o_k13 k14 o_k14 kl o_kl ?_;clear hA hF kt c_kt o_kt k13 o_k13 k14 o_k14 kl o_kl c_k13 c_k14 c_kl hT hf;intro z_W3 hA hF kt c_kt o_kt k13 c_k13 o_k13 k14 c_k14 o_k14 kl c_kl o_kl
         cases ahead
         · have hr:=Hr.out
           rw [if_neg (by decide)] at hr
           obtain rfl:=Option.some.inj hr
           clear hr Hr
           go_wp2_with fail
           refine cg fun V4 hV_V4=> ?_
           refine nef1 hV_V4 hA hF kt ?_;clear hA hF kt c_kt c_k13 c_k14 c_kl k13 k14 kl;intro z_V4 hA hF kt c_kt
           clear hV_V4
           refine tC (tHalves_calls x y a3 b3 _ ⟨hA,kt,o_kt⟩) fun W4 O2 hT hf=> ?_
           refine ti0 hT.hA hT.blk hT.no hf hF ?_;clear hA hF kt c_kt o_kt hT hf;intro z_W4 hA hF kt c_kt o_kt
           go_wp2_with fail
           go_ret
           exact ⟨rfl,O2,⟨hA,kt,o_kt⟩,hF⟩
         · have hr:=Hr.out
           rw [if_pos rfl] at hr
           obtain rfl:=Option.some.inj hr
           clear hr Hr
           go_wp2_with fail
           refine cg fun V4 hV_V4=> ?_
           refine nef1 hV_V4 hA hF kt ?_;clear hA hF kt c_kt c_k13 c_k14 c_kl k13 k14 kl;intro z_V4 hA hF kt c_kt
           clear hV_V4
           refine tC (tHalves_calls y x b3 a3 _ ⟨hA,kt,o_kt⟩) fun W4 O2 hT hf=> ?_
           refine ti0 hT.hA hT.blk hT.no hf hF ?_;clear hA hF kt c_kt o_kt hT hf;intro z_W4 hA hF kt c_kt o_kt
           go_wp2_with fail
           go_ret
           exact ⟨rfl,O2,⟨hA,kt,o_kt⟩,hF⟩)
    · have d1:((t.s.get h).tag==1)=false:=by simpa using h1
      rw [if_neg h1] at hr
      have ih:=Lib.hid (tPour_calls ahead sm k)
      clear h1
      cases ahead with
      | true=>
        rw [if_pos rfl] at hr
        obtain ⟨u,h_b,h_r⟩:=Option.bind_eq_some_iff.1 hr
        have Hu:=Lib.hid h_b;clear h_b hr;have hr:=h_r;clear h_r
        have Hr:=Lib.hid hr
        clear hr
        go_enter Tryz.func334,Tryz.ntmps334
        have hA:=hT.hA
        have kt:=hT.blk
        have o_kt:=hT.no
        have c_kt:=f3 kt;have l_ktw:=lt_of kt
        go_wp2_with fail
        refine cg fun V hV_V=> ?_
        have hF:=Fr.refl ((oneX tb)) O w
        refine nef1 hV_V hA hF kt ?_;clear hA hF kt c_kt;intro z_V hA hF kt c_kt
        clear hV_V
        refine rC (bRow_calls _ _ hA) fun W1 hb_W1=> ?_
        refine bef1 hb_W1 hA hF kt ?_;clear hb_W1 hA hF kt c_kt;intro z_W1 hA hF kt c_kt
        unfold Nd.val
        go_wp2_with fail
        refine cg fun V1 hV_V1=> ?_
        refine nef1 hV_V1 hA hF kt ?_;clear hA hF kt c_kt;intro z_V1 hA hF kt c_kt
        clear hV_V1
        refine rC (bRow_calls _ _ hA) fun W2 hb_W2=> ?_
        refine bef1 hb_W2 hA hF kt ?_;clear hb_W2 hA hF kt c_kt;intro z_W2 hA hF kt c_kt
        unfold Nd.val
        go_wp2_with fail
        refine cg fun V2 hV_V2=> ?_
        refine nef1 hV_V2 hA hF kt ?_;clear hA hF kt c_kt;intro z_V2 hA hF kt c_kt
        clear hV_V2
        refine tC (tOpen_calls (t:=t) h _ ⟨hA,kt,o_kt⟩) fun W3 O1 hT hf=> ?_
        refine ti0 hT.hA hT.blk hT.no hf hF ?_;clear hA hF kt c_kt o_kt hT hf;intro z_W3 hA hF kt c_kt o_kt
        go_wp2_with fail
        refine cg fun V3 hV_V3=> ?_
        refine nef1 hV_V3 hA hF kt ?_;clear hA hF kt c_kt;intro z_V3 hA hF kt c_kt
        clear hV_V3
        refine tC (ih.out _ _ _ _ _ Hu.out ⟨hA,kt,o_kt⟩) fun W4 O2 hT hf=> ?_
        refine ti0 hT.hA hT.blk hT.no hf hF ?_;clear hA hF kt c_kt o_kt hT hf;intro z_W4 hA hF kt c_kt o_kt
        go_wp2_with fail
        refine cg fun V4 hV_V4=> ?_
        refine nef1 hV_V4 hA hF kt ?_;clear hA hF kt c_kt;intro z_V4 hA hF kt c_kt
        clear hV_V4
        refine tC (tFork_calls (t:=u.2) _ _ _ Hr.out _ ⟨hA,kt,o_kt⟩) fun W5 O3 hT hf=> ?_
        refine ti0 hT.hA hT.blk hT.no hf hF ?_;clear hA hF kt c_kt o_kt hT hf;intro z_W5 hA hF kt c_kt o_kt
        go_wp2_with fail
        go_ret
        exact ⟨rfl,O3,⟨hA,kt,o_kt⟩,hF⟩
      | false=>
        rw [if_neg (by decide)] at hr
        obtain ⟨u,h_b,h_r⟩:=Option.bind_eq_some_iff.1 hr
        have Hu:=Lib.hid h_b;clear h_b hr;have hr:=h_r;clear h_r
        have Hr:=Lib.hid hr
        clear hr
        go_enter Tryz.func334,Tryz.ntmps334
        have hA:=hT.hA
        have kt:=hT.blk
        have o_kt:=hT.no
        have c_kt:=f3 kt;have l_ktw:=lt_of kt
        go_wp2_with fail
        refine cg fun V hV_V=> ?_
        have hF:=Fr.refl ((oneX tb)) O w
        refine nef1 hV_V hA hF kt ?_;clear hA hF kt c_kt;intro z_V hA hF kt c_kt
        clear hV_V
        refine rC (bRow_calls _ _ hA) fun W1 hb_W1=> ?_
        refine bef1 hb_W1 hA hF kt ?_;clear hb_W1 hA hF kt c_kt;intro z_W1 hA hF kt c_kt
        unfold Nd.val
        go_wp2_with fail
        refine cg fun V1 hV_V1=> ?_
        refine nef1 hV_V1 hA hF kt ?_;clear hA hF kt c_kt;intro z_V1 hA hF kt c_kt
        clear hV_V1
        refine rC (bRow_calls _ _ hA) fun W2 hb_W2=> ?_
        refine bef1 hb_W2 hA hF kt ?_;clear hb_W2 hA hF kt c_kt;intro z_W2 hA hF kt c_kt
        unfold Nd.val
        go_wp2_with fail
        refine cg fun V2 hV_V2=> ?_
        refine nef1 hV_V2 hA hF kt ?_;clear hA hF kt c_kt;intro z_V2 hA hF kt c_kt
        clear hV_V2
        refine tC (tOpen_calls (t:=t) h _ ⟨hA,kt,o_kt⟩) fun W3 O1 hT hf=> ?_
        refine ti0 hT.hA hT.blk hT.no hf hF ?_;clear hA hF kt c_kt o_kt hT hf;intro z_W3 hA hF kt c_kt o_kt
        go_wp2_with fail
        refine cg fun V3 hV_V3=> ?_
        refine nef1 hV_V3 hA hF kt ?_;clear hA hF kt c_kt;intro z_V3 hA hF kt c_kt
        clear hV_V3
        refine tC (ih.out _ _ _ _ _ Hu.out ⟨hA,kt,o_kt⟩) fun W4 O2 hT hf=> ?_
        refine ti0 hT.hA hT.blk hT.no hf hF ?_;clear hA hF kt c_kt o_kt hT hf;intro z_W4 hA hF kt c_kt o_kt
        go_wp2_with fail
        refine cg fun V4 hV_V4=> ?_
        refine nef1 hV_V4 hA hF kt ?_;clear hA hF kt c_kt;intro z_V4 hA hF kt c_kt
        clear hV_V4
        refine tC (tFork_calls (t:=u.2) _ _ _ Hr.out _ ⟨hA,kt,o_kt⟩) fun W5 O3 hT hf=> ?_
        refine ti0 hT.hA hT.blk hT.no hf hF ?_;clear hA hF kt c_kt o_kt hT hf;intro z_W5 hA hF kt c_kt o_kt
        go_wp2_with fail
        go_ret
        exact ⟨rfl,O3,⟨hA,kt,o_kt⟩,hF⟩
theorem tBoth_calls (x y : Int) (r : Int × Tb) (hr : t.bothG x y = some r) (w : World) (hT : TB w tb ap t O) :
    Calls Tryz.prog 325 #[.pointer (some ⟨tb,0,none⟩), .int .i64 x, .int .i64 y] w fun e w'=>e= .returned (.int .i64 r.1)∧DidT tb ap r.2 O w w':=by
  unfold Tb.bothG at hr
  by_cases he:t.e=0
  · have d1:(t.e !=0)=false:=by simp [he]
    rw [if_pos he] at hr
    clear he
    by_cases hx:x=0
    · have d2:(x==0)=true:=by simpa using hx
      rw [if_pos hx] at hr
      obtain rfl:=Option.some.inj hr
      clear hr hx
      go_enter Tryz.func325,Tryz.ntmps325
      have hA:=hT.hA
      have kt:=hT.blk
      have o_kt:=hT.no
      have c_kt:=f3 kt;have l_ktw:=lt_of kt
      go_wp2_with fail
      go_ret
      exact ⟨rfl,O,hT,Fr.refl _ _ _⟩
    · have d2:(x==0)=false:=by simpa using hx
      rw [if_neg hx] at hr
      clear hx
      by_cases hy:y=0
      · have d3:(y==0)=true:=by simpa using hy
        rw [if_pos hy] at hr
        obtain rfl:=Option.some.inj hr
        clear hr hy
        go_enter Tryz.func325,Tryz.ntmps325
        have hA:=hT.hA
        have kt:=hT.blk
        have o_kt:=hT.no
        have c_kt:=f3 kt;have l_ktw:=lt_of kt
        go_wp2_with fail
        go_ret
        exact ⟨rfl,O,hT,Fr.refl _ _ _⟩
      · have d3:(y==0)=false:=by simpa using hy
        rw [if_neg hy] at hr
        clear hy
        obtain ⟨s1,hs1⟩: ∃s1,Tb.small t.s x=s1:=⟨_,rfl⟩
        obtain ⟨s2,hs2⟩: ∃s2,Tb.small t.s y=s2:=⟨_,rfl⟩
        rw [hs1,hs2] at hr
        have HS1:=Lib.hid hs1;have HS2:=Lib.hid hs2
        clear hs1 hs2
        go_enter Tryz.func325,Tryz.ntmps325
        have hA:=hT.hA
        have kt:=hT.blk
        have o_kt:=hT.no
        have c_kt:=f3 kt;have l_ktw:=lt_of kt
        go_wp2_with fail
        refine cg fun V hV_V=> ?_
        have hF:=Fr.refl ((oneX tb)) O w
        refine nef1 hV_V hA hF kt ?_;clear hA hF kt c_kt;intro z_V hA hF kt c_kt
        clear hV_V
        refine rC (tSmall_calls x _ ⟨hA,kt,o_kt⟩) fun W1 hb_W1=> ?_
        refine bef1 hb_W1 hA hF kt ?_;clear hb_W1 hA hF kt c_kt;intro z_W1 hA hF kt c_kt
        rw [HS1.out]
        cases s1 with
        | true=>
          rw [if_pos rfl] at hr
          have Hr:=Lib.hid hr
          clear hr
          go_wp2_with fail
          refine cg fun V1 hV_V1=> ?_
          refine nef1 hV_V1 hA hF kt ?_;clear hA hF kt c_kt;intro z_V1 hA hF kt c_kt
          clear hV_V1
          refine tC (tPour_calls true x rounds _ _ _ _ _ Hr.out ⟨hA,kt,o_kt⟩) fun W2 O1 hT hf=> ?_
          refine ti0 hT.hA hT.blk hT.no hf hF ?_;clear hA hF kt c_kt o_kt hT hf;intro z_W2 hA hF kt c_kt o_kt
          go_wp2_with fail
          go_ret
          exact ⟨rfl,O1,⟨hA,kt,o_kt⟩,hF⟩
        | false=>
          rw [if_neg (by decide)] at hr
          go_wp2_with fail
          refine cg fun V1 hV_V1=> ?_
          refine nef1 hV_V1 hA hF kt ?_;clear hA hF kt c_kt;intro z_V1 hA hF kt c_kt
          clear hV_V1
          refine rC (tSmall_calls y _ ⟨hA,kt,o_kt⟩) fun W2 hb_W2=> ?_
          refine bef1 hb_W2 hA hF kt ?_;clear hb_W2 hA hF kt c_kt;intro z_W2 hA hF kt c_kt
          rw [HS2.out]
          cases s2 with
          | true=>
            rw [if_pos rfl] at hr
            have Hr:=Lib.hid hr
            clear hr
            go_wp2_with fail
            refine cg fun V2 hV_V2=> ?_
            refine nef1 hV_V2 hA hF kt ?_;clear hA hF kt c_kt;intro z_V2 hA hF kt c_kt
            clear hV_V2
            refine tC (tPour_calls false y rounds _ _ _ _ _ Hr.out ⟨hA,kt,o_kt⟩) fun W3 O1 hT hf=> ?_
            refine ti0 hT.hA hT.blk hT.no hf hF ?_;clear hA hF kt c_kt o_kt hT hf;intro z_W3 hA hF kt c_kt o_kt
            go_wp2_with fail
            go_ret
            exact ⟨rfl,O1,⟨hA,kt,o_kt⟩,hF⟩
          | false=>
            rw [if_neg (by decide)] at hr
            have Hr:=Lib.hid hr
            clear hr
            go_wp2_with fail
            refine cg fun V2 hV_V2=> ?_
            refine nef1 hV_V2 hA hF kt ?_;clear hA hF kt c_kt;intro z_V2 hA hF kt c_kt
            clear hV_V2
            refine tC (tFork_calls x y _ Hr.out _ ⟨hA,kt,o_kt⟩) fun W3 O1 hT hf=> ?_
            refine ti0 hT.hA hT.blk hT.no hf hF ?_;clear hA hF kt c_kt o_kt hT hf;intro z_W3 hA hF kt c_kt o_kt
            go_wp2_with fail
            go_ret
            exact ⟨rfl,O1,⟨hA,kt,o_kt⟩,hF⟩
  · have d1:(t.e !=0)=true:=by simp [he]
    rw [if_neg he] at hr
    clear he
    obtain rfl:=Option.some.inj hr
    clear hr
    go_enter Tryz.func325,Tryz.ntmps325
    have hA:=hT.hA
    have kt:=hT.blk
    have o_kt:=hT.no
    have c_kt:=f3 kt;have l_ktw:=lt_of kt
    go_wp2_with fail
    refine cg fun V hV_V=> ?_
    have hF:=Fr.refl ((oneX tb)) O w
    refine nnf1 hV_V hA hF kt ?_;clear hA hF kt c_kt;intro hn_V z_V hA hF kt c_kt
    obtain ⟨kl,c_kl,o_kl,l_klV⟩:=nN hn_V hV_V (w.heap.size)
    clear hV_V hn_V
    refine tC (tDrop_calls [x,y] w.heap.size 0 2 _ _ (by simp) _ ⟨hA,kt,o_kt⟩ kl (two_cell x y) o_kl (by omega) 2 rfl) fun W1 O1 hT hf=> ?_
    refine ti1 hT.hA hT.blk hT.no hf hF kl o_kl ?_;clear hA hF kt c_kt o_kt kl o_kl c_kl hT hf;intro z_W1 hA hF kt c_kt o_kt kl c_kl o_kl
    go_wp2_with fail
    go_ret
    exact ⟨rfl,O1,⟨hA,kt,o_kt⟩,hF⟩
end
end Go.Proofs.YtmlmnmkhigjaaaaGreat

/- Part 3 of what PutEmpty needs: the walks of the program's functions, and plain facts. -/
import Derived.Test.YtdjpjmkpndmhaaaGreatPutEmptyM2
import Derived.ArgAppend
set_option linter.unusedSimpArgs false
set_option linter.unusedVariables false
set_option linter.unnecessarySimpa false
namespace Go.Proofs.YtdjpjmkpndmhaaaGreat
open Go.RowKit
theorem wt_of_own {w:World} {base:Nat} {v:Value} {l:List Nat} (h:w.ownsRow base 3 1 v l.length (l.map fun n:Nat=>Value.int .i64 (n:Int))):Wt w v l:=by
  rcases h.2 with ⟨rfl,h0⟩|⟨g,cap,cur,rfl,hg,hc,hn,hm,hsz,hx⟩
  · exact .inl ⟨rfl,List.eq_nil_of_length_eq_zero h0⟩
  · refine .inr ⟨g,0,cap,cur,rfl,hc,hn,by omega,by omega,fun i hi=> ?_⟩
    have:=congrArg (·[i]?) hx
    simp only [Nat.mul_one,List.getElem?_take_of_lt hi,List.getElem?_map,List.getElem?_eq_getElem hi,Option.map_some] at this
    simpa using this
structure WaitStep (w:World) (wv:Value) (l:List Nat) (w':World) (wv':Value):Prop where
  wt:Wt w' wv' l
  os:w'.os=w.os
  tape:w'.tape=w.tape
  output:w'.output=w.output
  size:w.heap.size≤w'.heap.size
  block: ∀b,b<w.heap.size→wv.ownBlock≠some b→w'.heap[b]? =w.heap[b]?
  own: ∀b,wv'.ownBlock=some b→wv.ownBlock=some b∨w.heap.size≤b
theorem wpList_wait {P : Program} (w : World) {ops : Array Oper} {rest : List Oper} {o : Oper} {a : Act} {Q : Exit → Act → World → Prop} (hgd : o.guard = none) (s x : Operand) (t : TypeId)
    (hop:o.op=Op.call {callee:=Callee.builtin Builtin.append,args:= #[s,x],argTypes:= #[t,t]}) (ht:P.underlying t=some (.slice 3))
    (hi:(P.info? 3).map (fun i=>(i.zero,i.size,i.bytes))=some (some (.int .i64 0),1,8)) (wv:Value) (l:List Nat) (h:Nat) (hs:a.eval s=wv) (hw:Wt w wv l)
    (n:Nat) (hn:n=w.heap.size) (hx:a.eval x= .slice (some ⟨n,0,none⟩) 1 1) (hl:l.length≤60000)
    (hk: ∀A n c w',WaitStep w wv (l++[h]) w' (.slice A n c)→wpList P ops Q rest (a.put o.dst (.slice A n c)) w'):
    wpList P ops Q (o::rest) a (w.alloc (.cells #[.int .i64 (h:Int)] 3)):=by
  subst hn
  replace hk: ∀wv' w',WaitStep w wv (l++[h]) w' wv'→wpList P ops Q rest (a.put o.dst wv') w':=by
    intro wv' w' hst
    rcases hst.wt with ⟨rfl,_⟩|⟨g,off,cap,c,rfl,_⟩
    · exact hk _ _ _ _ hst
    · exact hk _ _ _ _ hst
  obtain ⟨i0,hi0,hz0,hz1,hz2⟩:=info_parts hi
  have hnews: ∀j u,[Value.int .i64 (h:Int)][j]? =some u→(w.alloc (.cells #[.int .i64 (h:Int)] 3)).cell? ((⟨w.heap.size,0,none⟩:Addr).add j)=some u:=by
    intro j u hu
    rw [show (⟨w.heap.size,0,none⟩:Addr).add j=⟨w.heap.size,j,none⟩ by unfold Addr.add;split<;>simp_all,cells_of (blk_new w _ w.heap.size rfl) j]
    simpa using hu
  have fin: ∀v' w',w'.ownsRow (w.alloc (.cells #[.int .i64 (h:Int)] 3)).heap.size 3 1 v' (l.length+1) ((l.map fun n:Nat=>Value.int .i64 (n:Int))++[.int .i64 (h:Int)])→(w.alloc (.cells #[.int .i64 (h:Int)] 3)).grownBy w' none→WaitStep w wv (l++[h]) w' v':=by
    intro v' w' hown hg
    refine ⟨wt_of_own (base:=(w.alloc (.cells #[.int .i64 (h:Int)] 3)).heap.size) (by simpa using hown),hg.os,hg.tape,hg.output,by have:=hg.size;simp at this;omega,fun b hb _=> ?_,fun b hb=> .inr ?_⟩
    · rw [hg.block b (by simp;omega) (by simp),blk_old _ _ _ hb]
    · rcases hown.2 with ⟨_,h0⟩|⟨g,cap,cur,rfl,hge,_⟩
      · omega
      · simp [Value.ownBlock] at hb;simp at hge;omega
  rcases hw with ⟨rfl,rfl⟩|⟨g,off,cap,c,rfl,hg,hlc,hoc,hom,hcell⟩
  · refine wpList_append_grows _ hgd s x t hop 3 i0 _ 1 8 ht hi0 hz0 hz1 hz2 rfl (by omega) none 0 0 [] hs (fun _=>⟨rfl,rfl⟩) rfl (fun _ h=>by cases h) ⟨w.heap.size,0,none⟩ 1 1 [.int .i64 (h:Int)] hx rfl hnews (by simp [Value.oneCell']) (by omega) (by simp [maxLen]) (by omega) ?_
    intro v' w' hown hgr
    exact hk v' w' (fin v' w' (by simpa using hown) hgr)
  · have hgl:=lt_of hg
    have hg':(w.alloc (.cells #[.int .i64 (h:Int)] 3)).heap[g]? =some (.cells c 3 (0,0)):=by rw [blk_old _ _ _ hgl];exact hg
    refine wpList_append_arg _ hgd s x t hop 3 i0 _ 1 8 ht hi0 hz0 hz1 hz2 rfl (by omega) g off l.length cap (l.map fun n:Nat=>Value.int .i64 (n:Int)) hs (by simp) ?_ ⟨w.heap.size,0,none⟩ 1 1 [.int .i64 (h:Int)] hx rfl hnews (by simp [Value.oneCell']) ?_ (by unfold maxLen;omega) (by omega) ?_ ?_
    · intro j u hu
      rw [cells_of hg']
      simp only [List.getElem?_map,Option.map_eq_some_iff] at hu
      obtain ⟨n,hn,rfl⟩:=hu
      obtain ⟨hj,rfl⟩:=List.getElem?_eq_some_iff.1 hn
      exact hcell j hj
    · intro hr j hj
      simp at hj
      subst hj
      rw [cells_of hg',free_of hg']
      refine ⟨?_,rfl⟩
      rw [Array.getElem?_eq_getElem (show off+l.length*1+0<c.size by omega)];rfl
    · intro hr
      refine hk _ _ ⟨.inr ⟨g,off,cap,c.setIfInBounds (off+l.length) (.int .i64 (h:Int)),by simp,?_,by simp;omega,by simpa using hoc,hom,fun i hi=> ?_⟩,rfl,rfl,rfl,?_,fun b hb hne=> ?_,fun b hb=> .inl hb⟩
      · simp only [World.setCells,Nat.mul_one]
        rw [blk_set,hg',Option.map_some,setAt_cells]
      · simp at hi
        by_cases h1:i=l.length
        · subst h1
          rw [Array.getElem?_setIfInBounds_self_of_lt (by omega)];simp
        · rw [Array.getElem?_setIfInBounds_ne (by omega),hcell i (by omega),List.getElem_append_left (by omega)]
      · simp only [World.setCells];rw [siz_set];simp
      · simp only [World.setCells]
        rw [blk_far _ _ _ _ (fun e=>hne (by rw [e];rfl)),blk_old _ _ _ hb]
    · intro hfull v' w' hown hgr
      exact hk v' w' (fin v' w' hown hgr)
end Go.Proofs.YtdjpjmkpndmhaaaGreat
namespace Go.Proofs.YtdjpjmkpndmhaaaGreat
open Go.RowKit
attribute [local go_sem ↓] Go.wp_at_zero Go.wp_at_succ
attribute [local go_sem] lt_s2 lt_s3 lt_s4
variable {ap : Value} {s : Ar} {O : Nat → Prop}
def Did (X:Nat→Prop) (ap:Value) (s':Ar) (O:Nat→Prop) (w w':World):Prop:= ∃O',AP w' ap s' O'∧Fr X O O' w w'
theorem Did.refl {X:Nat→Prop} {w:World} (h:AP w ap s O):Did X ap s O w w:=⟨O,h,Fr.refl _ _ _⟩
theorem size_ne {s:Ar} {n:Nat} (h1:1≤n) (h2:n≤s.size):s.size≠0:=by omega
set_option maxHeartbeats 400000 in
theorem keep_yes (h : Nat) (h1 : 1 ≤ h) (h2 : h ≤ s.size) (hc : s.cnt h ≠ 0) (w : World) (hA : AP w ap s O) :
    Calls Tryz.prog 96 #[ap, .int .i64 (h:Int)] w fun e w'=>e= .returned (.int .i64 0)∧Did noX ap (s.keep h) O w w':=by
  have d1:(s.cnt (h:Int)==0)=false:=by simpa using hc
  have d3:(h:Int)<(s.size:Int)+1:=by omega
  have d4:(0:Int)≤(h:Int):=by omega
  obtain ⟨p,nb,cb,ub,wv,rfl,hR⟩:=hA.raw (by omega)
  have cp:=hR.reads.cp
  have cc:=hR.reads.cc h h2
  have hs:=hA.1.small
  have fc:=free_of hR.hc
  have hR':=hR.setC h (.int .i64 (wrap64 (s.count h+1)))
  have hW:=hA.1.keep (h:Int)
  have hk:Hid (s.keep (h:Int)={s with count:=upd s.count h (wrap64 (s.count h+1))}):=by
    show _=_
    unfold Ar.keep;rw [if_neg hc,Ar.cnt_nat h1 h2];rfl
  have HR:=Lib.hid hR;clear hR
  have HR':=Lib.hid hR';clear hR'
  clear hc
  go_enter Tryz.func96,Tryz.ntmps96
  go_wp2_with fail
  refine (count_calls _ _ hA).mono ?_
  rintro e w1 ⟨rfl,rfl⟩
  clear hA
  go_wp2_with fail
  go_ret
  refine ⟨rfl,O,?_,?_⟩
  · rw [hk.out] at hW⊢
    refine AP.of_raw (HR'.out.congr (fun _ _=>rfl) (fun i _=> ?_) (fun _ _=>rfl)) hW
    unfold updF countF upd
    split<;>simp_all
  · exact Fr.own_step HR.out HR'.out rfl rfl rfl (by rw [siz_set];exact Nat.le_refl _) (fun x _ hx=>blk_far _ _ _ _ (fun e=>hx (e▸HR.out.oc))) (fun x hx=> .inl hx)
set_option maxHeartbeats 400000 in
theorem keep_no (h : Int) (hc : s.cnt h = 0) (w : World) (hA : AP w ap s O) :
    Calls Tryz.prog 96 #[ap, .int .i64 h] w fun e w'=>e= .returned (.int .i64 9)∧w=w':=by
  have d1:(s.cnt (h:Int)==0)=true:=by rw [hc];rfl
  clear hc
  go_enter Tryz.func96,Tryz.ntmps96
  go_wp2_with fail
  refine (count_calls _ _ hA).mono ?_
  rintro e w1 ⟨rfl,rfl⟩
  go_wp2_with fail
  go_ret
  exact ⟨rfl,rfl⟩
theorem keep_calls (h : Int) (w : World) (hA : AP w ap s O) :
    Calls Tryz.prog 96 #[ap, .int .i64 h] w fun e w'=>e= .returned (.int .i64 (s.cntE h))∧Did noX ap (s.keep h) O w w':=by
  by_cases hc:s.cnt h=0
  · refine (keep_no h hc w hA).mono ?_
    rintro e w1 ⟨rfl,rfl⟩
    unfold Ar.cntE Ar.keep;rw [if_pos hc,if_pos hc];exact ⟨rfl,Did.refl hA⟩
  · unfold Ar.cntE;rw [if_neg hc]
    obtain ⟨n,rfl,h1,h2, -⟩:=Ar.cnt_pos hc
    exact keep_yes n h1 h2 hc w hA
set_option maxHeartbeats 400000 in
theorem drop_no (h : Int) (hc : s.cnt h = 0) (w : World) (hA : AP w ap s O) :
    Calls Tryz.prog 23 #[ap, .int .i64 h] w fun e w'=>e= .returned (.int .i64 9)∧w=w':=by
  have d1:(s.cnt (h:Int)==0)=true:=by rw [hc];rfl
  clear hc
  go_enter Tryz.func23,Tryz.ntmps23
  go_wp2_with fail
  refine (count_calls _ _ hA).mono ?_
  rintro e w1 ⟨rfl,rfl⟩
  go_wp2_with fail
  go_ret
  exact ⟨rfl,rfl⟩
set_option maxHeartbeats 400000 in
theorem drop_more (h : Nat) (h1 : 1 ≤ h) (h2 : h ≤ s.size) (hc : s.cnt h ≠ 0) (hz : wrap64 (s.count h - 1) ≠ 0) (w : World) (hA : AP w ap s O) :
    Calls Tryz.prog 23 #[ap, .int .i64 (h:Int)] w fun e w'=>e= .returned (.int .i64 0)∧Did noX ap (s.drop h) O w w':=by
  have d1:(s.cnt (h:Int)==0)=false:=by simpa using hc
  have d2:(wrap64 (s.count h - 1)==0)=false:=by simpa using hz
  have d3:(h:Int)<(s.size:Int)+1:=by omega
  have d4:(0:Int)≤(h:Int):=by omega
  obtain ⟨p,nb,cb,ub,wv,rfl,hR⟩:=hA.raw (by omega)
  have cp:=hR.reads.cp
  have cc:=hR.reads.cc h h2
  have hs:=hA.1.small
  have fc:=free_of hR.hc
  have hpc:=hR.pc
  have hR':=hR.setC h (.int .i64 (wrap64 (s.count h - 1)))
  have hW:=hA.1.drop (h:Int)
  have hk:Hid (s.drop (h:Int)={s with count:=upd s.count h (wrap64 (s.count h - 1))}):=by
    show _=_
    unfold Ar.drop;rw [if_neg hc,Ar.cnt_nat h1 h2,if_neg hz];rfl
  have HR:=Lib.hid hR;clear hR
  have HR':=Lib.hid hR';clear hR'
  clear hc hz
  go_enter Tryz.func23,Tryz.ntmps23
  go_wp2_with fail
  refine (count_calls _ _ hA).mono ?_
  rintro e w1 ⟨rfl,rfl⟩
  clear hA
  go_wp2_with fail
  go_ret
  refine ⟨rfl,O,?_,?_⟩
  · rw [hk.out] at hW⊢
    refine AP.of_raw (HR'.out.congr (fun _ _=>rfl) (fun i _=> ?_) (fun _ _=>rfl)) hW
    unfold updF countF upd
    dsimp only
    split<;>simp_all
  · exact Fr.own_step HR.out HR'.out rfl rfl rfl (by rw [siz_set];exact Nat.le_refl _) (fun x _ hx=>blk_far _ _ _ _ (fun e=>hx (e▸HR.out.oc))) (fun x hx=> .inl hx)
set_option maxRecDepth 100000 in
set_option maxHeartbeats 400000 in
theorem drop_last (h : Nat) (h1 : 1 ≤ h) (h2 : h ≤ s.size) (hc : s.cnt h ≠ 0) (hz : wrap64 (s.count h - 1) = 0) (w : World) (hA : AP w ap s O) :
    Calls Tryz.prog 23 #[ap, .int .i64 (h:Int)] w fun e w'=>e= .returned (.int .i64 0)∧Did noX ap (s.drop h) O w w':=by
  have d1:(s.cnt (h:Int)==0)=false:=by simpa using hc
  have d2:(wrap64 (s.count h - 1)==0)=true:=by simpa using hz
  have d3:(h:Int)<(s.size:Int)+1:=by omega
  have d4:(0:Int)≤(h:Int):=by omega
  obtain ⟨p,nb,cb,ub,wv,rfl,hR⟩:=hA.raw (by omega)
  have cp:=hR.reads.cp
  have cc:=hR.reads.cc h h2
  have hs:=hA.1.small
  have hl:=hA.1.length
  have fc:=free_of hR.hc
  have fp:=free_of hR.hp
  have hpc:=hR.pc
  have hR':=hR.setC h (.int .i64 (wrap64 (s.count h - 1)))
  have hW:=hA.1.drop (h:Int)
  have hk:Hid (s.drop (h:Int)={s with count:=upd s.count h (wrap64 (s.count h - 1)),wait:=s.wait++[h]}):=by
    show _=_
    unfold Ar.drop;rw [if_neg hc,Ar.cnt_nat h1 h2,if_pos hz];rfl
  have HR:=Lib.hid hR;clear hR
  have HR':=Lib.hid hR';clear hR'
  clear hc hz
  go_enter Tryz.func23,Tryz.ntmps23
  go_wp2_with fail
  refine (count_calls _ _ hA).mono ?_
  rintro e w1 ⟨rfl,rfl⟩
  clear hA
  go_wp2_with (at_builtin;refine wpList_wait _ (by rfl) _ _ 62 (by rfl) Tryz.underlying62 (by kernel_rfl) wv s.wait h (by rfl) HR'.out.hw w.heap.size (by rw [siz_set]) (by rfl) (by omega) ?_;intro A n c w2 hst;have hp2:=(hst.block p (by rw [siz_set];exact lt_of HR.out.hp) HR.out.wp).trans HR'.out.hp;have cp2:=cells_of hp2;have fp2:=free_of hp2;unfold ArC at cp2)
  go_ret
  have hR:=HR.out
  have hR1:=HR'.out
  have hncb:(Value.slice A n c).ownBlock≠some cb:=fun e=>by
    rcases hst.own _ e with g|g
    · exact hR.ncw g
    · have:=lt_of hR.hc;rw [siz_set] at g;omega
  have hnp:(Value.slice A n c).ownBlock≠some p:=fun e=>by
    rcases hst.own _ e with g|g
    · exact hR.wp g
    · have:=lt_of hR.hp;rw [siz_set] at g;omega
  have hb2: ∀x,O x→wv.ownBlock≠some x→w2.heap[x]? =(w.setCell ⟨cb,h,none⟩ (.int .i64 (wrap64 (s.count h - 1)))).heap[x]? :=fun x hx hne=>hst.block x (by rw [siz_set];exact hR.lt x hx) hne
  have hR2:Raw w2 p s.size nb cb ub wv (nodeF s) (updF (countF s) h (.int .i64 (wrap64 (s.count h - 1)))) (usedF s) s.busy s.made s.wait O→True:=fun _=>trivial
  clear hR2
  have hsz:=hst.size
  rw [siz_set] at hsz
  refine ⟨rfl,fun x=>O x∨(Value.slice A n c).ownBlock=some x,?_,?_⟩
  · rw [hk.out] at hW⊢
    refine AP.of_raw ⟨by rw [blk_set,hp2];rfl,?_,?_,?_,hst.wt.far hnp _,hncb, .inl hR.op, .inl hR.on, .inl hR.oc, .inl hR.ou,fun g hg=> .inr hg,fun b hb=> ?_⟩ hW
    · rw [blk_far _ _ _ _ (Ne.symm hR.pn),hb2 nb hR.on hR.wn];exact hR1.hn
    · rw [blk_far _ _ _ _ (Ne.symm hR.pc),hb2 cb hR.oc hR.ncw]
      rw [hR1.hc]
      congr 2
      refine ofF_congr fun i _=> ?_
      unfold updF countF upd
      dsimp only
      split<;>simp_all
    · rw [blk_far _ _ _ _ (Ne.symm hR.pu),hb2 ub hR.ou hR.wu];exact hR1.hu
    · rw [siz_set]
      rcases hb with hb|hb
      · exact Nat.lt_of_lt_of_le (hR.lt b hb) hsz
      · obtain ⟨c,hc⟩:=hst.wt.type hb
        exact lt_of hc
  · refine ⟨hst.os,hst.tape,hst.output,by rw [siz_set];exact hsz,fun x hx ho _=> ?_,fun x hx=> ?_⟩
    · have e1:x≠p:=fun e=>ho (e▸hR.op)
      have e2:x≠cb:=fun e=>ho (e▸hR.oc)
      rw [blk_far _ _ _ _ e1,hst.block x (by rw [siz_set];exact hx) (fun e=>ho (hR.ow x e)),blk_far _ _ _ _ e2]
    · rcases hx with hx|hx
      · exact .inl hx
      · rcases hst.own x hx with g|g
        · exact .inl (hR.ow x g)
        · rw [siz_set] at g;exact .inr g
theorem drop_calls (h : Int) (w : World) (hA : AP w ap s O) :
    Calls Tryz.prog 23 #[ap, .int .i64 h] w fun e w'=>e= .returned (.int .i64 (s.cntE h))∧Did noX ap (s.drop h) O w w':=by
  by_cases hc:s.cnt h=0
  · refine (drop_no h hc w hA).mono ?_
    rintro e w1 ⟨rfl,rfl⟩
    unfold Ar.cntE Ar.drop;rw [if_pos hc,if_pos hc];exact ⟨rfl,Did.refl hA⟩
  · unfold Ar.cntE;rw [if_neg hc]
    obtain ⟨n,rfl,h1,h2, -⟩:=Ar.cnt_pos hc
    by_cases hz:wrap64 (s.count n - 1)=0
    · exact drop_last n h1 h2 hc hz w hA
    · exact drop_more n h1 h2 hc hz w hA
end Go.Proofs.YtdjpjmkpndmhaaaGreat
namespace Go.Proofs.YtdjpjmkpndmhaaaGreat
open Go.RowKit
attribute [local go_sem ↓] Go.wp_at_zero Go.wp_at_succ
attribute [local go_sem] lt_s2 lt_s3 lt_s4
variable {ap : Value} {s : Ar} {O : Nat → Prop}
theorem freeFrom_at (used:Nat→Bool) (size k:Nat) (h:k≤size):freeFrom used size (size+1 - k) k=if used k then freeFrom used size (size+1 - (k+1)) (k+1) else (k:Int):=by
  rw [show size+1 - k=(size - k)+1 by omega,show size+1 - (k+1)=size - k by omega];rfl
theorem freeFrom_end (used:Nat→Bool) (size:Nat):freeFrom used size (size+1 - (size+1)) (size+1)=0:=by
  rw [Nat.sub_self];rfl
set_option maxHeartbeats 400000 in
theorem free_calls (w : World) (hA : AP w ap s O) :
    Calls Tryz.prog 118 #[ap] w fun e w'=>e= .returned (.int .i64 s.free)∧w=w':=by
  have hs:=hA.1.small
  go_enter Tryz.func118,Tryz.ntmps118
  go_wp2_with fail
  go_loop [3] (fun h=> ∃k:Nat,1≤k∧k≤s.size+1∧h= .int .i64 k∧Hid (s.free=freeFrom s.used s.size (s.size+1 - k) k)) (fun h=>s.size+1 - (intOf h).toNat)
  case atStart=>exact ⟨1,by omega,by omega,rfl,Lib.hid rfl⟩
  case round=>
    obtain ⟨k,hk1,hk2,rfl,hk⟩:=hrel
    by_cases hlt:k≤s.size
    · have d1:decide ((k:Int)≤(s.size:Int))=true:=by simp;omega
      obtain ⟨p,nb,cb,ub,wv,rfl,hR⟩:=hA.raw (by omega)
      have cp:=hR.reads.cp
      have cu:=hR.reads.cu k hlt
      have d3:(k:Int)<(s.size:Int)+1:=by omega
      clear hR
      rw [freeFrom_at _ _ _ hlt] at hk
      by_cases hu:s.used k=true
      · rw [hu] at cu hk
        rw [if_pos rfl] at hk
        clear hu
        go_wp2_with fail
        refine (size_calls _ hA).mono ?_
        rintro e w1 ⟨rfl,rfl⟩
        go_wp2_with fail
        go_round
        case rel=>exact ⟨k+1,by omega,by omega,by go_num,hk⟩
        case measure=>simp [intOf];omega
      · rw [Bool.eq_false_iff.2 hu] at cu hk
        rw [if_neg (by decide)] at hk
        clear hu
        go_wp2_with fail
        refine (size_calls _ hA).mono ?_
        rintro e w1 ⟨rfl,rfl⟩
        go_wp2_with fail
        go_ret
        exact ⟨by rw [hk.out];rfl,rfl⟩
    · have d1:decide ((k:Int)≤(s.size:Int))=false:=by simp;omega
      obtain rfl:k=s.size+1:=by omega
      rw [freeFrom_end] at hk
      go_wp2_with fail
      refine (size_calls _ hA).mono ?_
      rintro e w1 ⟨rfl,rfl⟩
      go_wp2_with fail
      go_ret
      exact ⟨by rw [hk.out];rfl,rfl⟩
theorem bad_take (s:Ar) (l:List Int) (i:Nat) (hi:i<l.length):s.bad (l.take (i+1))=(s.bad (l.take i)||(l[i] !=0&&s.cnt l[i]==0)):=by
  unfold Ar.bad
  rw [List.take_succ_eq_append_getElem hi,List.any_append];simp
set_option maxHeartbeats 800000 in
theorem make_tag (n : Nd) (ht : n.tag < 1 ∨ 6 < n.tag) (w : World) (hA : AP w ap s O) :
    Calls Tryz.prog 66 #[ap,n.val] w fun e w'=>e= .returned (.tuple #[.int .i64 0, .int .i64 1])∧Below w.heap.size w w':=by
  unfold Nd.val
  rcases ht with ht|ht
  · have d1:decide (n.tag<1)=true:=by simpa using ht
    go_enter Tryz.func66,Tryz.ntmps66
    go_wp2_with fail
    go_ret2
    refine ⟨rfl,?_⟩
    (repeat' first|with_reducible assumption|with_reducible exact Below.refl _ _|with_reducible refine Below.alloc ?_ ?_ _|with_reducible refine Below.setCell ?_ ?_ _|with_reducible refine below_drewN ?_ _|with_reducible refine Below.drew ?_|exact Nat.le_refl _|((try dsimp only);omega)|(simp only [siz_alloc,siz_set];omega))
  · have d1:decide (n.tag<1)=false:=by simp;omega
    have d2:decide (6<n.tag)=true:=by simpa using ht
    go_enter Tryz.func66,Tryz.ntmps66
    go_wp2_with fail
    go_ret2
    refine ⟨rfl,?_⟩
    (repeat' first|with_reducible assumption|with_reducible exact Below.refl _ _|with_reducible refine Below.alloc ?_ ?_ _|with_reducible refine Below.setCell ?_ ?_ _|with_reducible refine below_drewN ?_ _|with_reducible refine Below.drew ?_|exact Nat.le_refl _|((try dsimp only);omega)|(simp only [siz_alloc,siz_set];omega))
theorem idx0 (a b c d:Int) (w:World):(Instr.index 90 (.agg #[.int .i64 a, .int .i64 b, .int .i64 c, .int .i64 d]) (.int .i64 0)).run Tryz.prog w= .ok (.int .i64 a) w:=by kernel_rfl
theorem idx1 (a b c d:Int) (w:World):(Instr.index 90 (.agg #[.int .i64 a, .int .i64 b, .int .i64 c, .int .i64 d]) (.int .i64 1)).run Tryz.prog w= .ok (.int .i64 b) w:=by kernel_rfl
theorem idx2 (a b c d:Int) (w:World):(Instr.index 90 (.agg #[.int .i64 a, .int .i64 b, .int .i64 c, .int .i64 d]) (.int .i64 2)).run Tryz.prog w= .ok (.int .i64 c) w:=by kernel_rfl
theorem idx3 (a b c d:Int) (w:World):(Instr.index 90 (.agg #[.int .i64 a, .int .i64 b, .int .i64 c, .int .i64 d]) (.int .i64 3)).run Tryz.prog w= .ok (.int .i64 d) w:=by kernel_rfl
attribute [local go_sem] idx0 idx1 idx2 idx3
theorem make_bad {s:Ar} {n:Nd} (h1:1≤n.tag) (h2:n.tag≤6) (hb:s.bad n.kids=true):s.make n=(0,9,s):=by
  unfold Ar.make;rw [if_neg (by omega),if_pos hb]
theorem make_full {s:Ar} {n:Nd} (h1:1≤n.tag) (h2:n.tag≤6) (hb:s.bad n.kids=false) (hf:s.free=0):s.make n=(0,2,s):=by
  unfold Ar.make;rw [if_neg (by omega),if_neg (by simp [hb]),if_pos hf]
theorem make_done {s : Ar} {n : Nd} {f : Nat} (h1 : 1 ≤ n.tag) (h2 : n.tag ≤ 6) (hb : s.bad n.kids = false) (hf : s.free = f) (h : 1 ≤ f) :
    s.make n=((f:Int),0,{s with node:=upd s.node f n,count:=upd (incAll s.count n.kids) f 1,used:=upd s.used f true,busy:=wrap64 (s.busy+1),made:=wrap64 (s.made+1)}):=by
  unfold Ar.make;rw [if_neg (by omega),if_neg (by simp [hb]),hf,if_neg (by omega)];rfl
structure MakeAt (w wr:World) (p:Nat) (s:Ar) (nb cb ub:Nat) (wv:Value) (O:Nat→Prop) (n:Nd) (i:Nat):Prop where
  raw:RawS wr p {s with count:=incAll s.count (n.kids.take i)} nb cb ub wv O
  blk:wr.heap[w.heap.size]? =some (.cells n.cells 93 (0,0))
  fr:Fr noX O O w wr
  no: ¬O w.heap.size
theorem incAll_append (c:Nat→Int) (l m:List Int):incAll c (l++m)=incAll (incAll c l) m:=by
  induction l generalizing c with
  | nil=>rfl
  | cons k l ih=>exact ih _
section
variable {w wr : World} {p : Nat} {nb cb ub : Nat} {wv : Value} {n : Nd} {i : Nat}
theorem MakeAt.cp (h:MakeAt w wr p s nb cb ub wv O n i): ∀o,wr.cell? ⟨p,o,none⟩= #[.slice (some ⟨nb,0,none⟩) (s.size+1) (s.size+1), .slice (some ⟨cb,0,none⟩) (s.size+1) (s.size+1), .slice (some ⟨ub,0,none⟩) (s.size+1) (s.size+1),wv, .int .i64 s.busy, .int .i64 s.made][o]? :=h.raw.reads.cp
theorem MakeAt.cc (h : MakeAt w wr p s nb cb ub wv O n i) (m : Nat) (hm : m ≤ s.size) :
    ∃c,wr.cell? ⟨cb,m,none⟩=some (.int .i64 c)∧ ∀k,n.kids[i]? =some k→k≠0→k=m→MakeAt w (wr.setCell ⟨cb,m,none⟩ (.int .i64 (wrap64 (c+1)))) p s nb cb ub wv O n (i+1):=by
  refine ⟨_,h.raw.reads.cc m hm,fun k hk hk0 hkm=>⟨?_,?_,?_,?_⟩⟩
  · refine (h.raw.setC m _).congr (fun _ _=>rfl) (fun j _=> ?_) (fun _ _=>rfl)
    obtain ⟨hl,hk⟩:=List.getElem?_eq_some_iff.1 hk
    unfold updF countF
    rw [List.take_succ_eq_append_getElem hl,incAll_append]
    simp only [incAll,hk]
    rw [if_neg hk0,hkm,Int.toNat_natCast]
    unfold upd
    split<;>rfl
  · have hne:w.heap.size≠cb:=fun e=>h.no (by rw [e];exact h.raw.oc)
    rw [blk_far _ _ _ _ hne];exact h.blk
  · exact ⟨h.fr.os, h.fr.tape, h.fr.output, by rw [siz_set]; exact h.fr.size, fun x hx ho hX => by
      have hne:x≠cb:=fun e=>ho (by rw [e];exact h.raw.oc)
      rw [blk_far _ _ _ _ hne];exact h.fr.block x hx ho hX,h.fr.own⟩
  · exact h.no
theorem MakeAt.skip (h:MakeAt w wr p s nb cb ub wv O n i) (k:Int) (hk:n.kids[i]? =some k) (hz:k=0):MakeAt w wr p s nb cb ub wv O n (i+1):=by
  refine ⟨h.raw.congr (fun _ _=>rfl) (fun j _=> ?_) (fun _ _=>rfl),h.blk,h.fr,h.no⟩
  obtain ⟨hl,hk⟩:=List.getElem?_eq_some_iff.1 hk
  unfold countF
  rw [List.take_succ_eq_append_getElem hl,incAll_append]
  simp only [incAll,hk]
  rw [if_pos hz]
end
set_option maxRecDepth 100000 in
set_option maxHeartbeats 4000000 in
theorem make_calls0 (n : Nd) (h1 : 1 ≤ n.tag) (h2 : n.tag ≤ 6) (hn : U64 n.a) (w : World) (hA : AP w ap s O) :
    Calls Tryz.prog 66 #[ap,n.val] w fun e w'=>e= .returned (.tuple #[.int .i64 (s.make n).1, .int .i64 (s.make n).2.1])∧Did noX ap (s.make n).2.2 O w w':=by
  unfold Nd.val
  have d1:decide (n.tag<1)=false:=by simp;omega
  have d2:decide (6<n.tag)=false:=by simp;omega
  go_enter Tryz.func66,Tryz.ntmps66
  go_wp2_with fail
  go_loopw [21] (fun x wr=> ∃i:Nat,i≤4∧x= .int .i64 i∧s.bad (n.kids.take i)=false∧wr=w.alloc (.cells #[.int .i64 n.tag, .int .i64 n.k0, .int .i64 n.k1, .int .i64 n.k2, .int .i64 n.k3, .int .u64 n.a, .int .u64 n.b] 93 (0,0))) (fun x _=>4 - (intOf x).toNat)
  case atStart=>exact ⟨0,by omega,rfl,rfl,rfl⟩
  case round=>
    obtain ⟨i,hi,rfl,hbi,rfl⟩:=hrel
    rcases (show i=0∨i=1∨i=2∨i=3∨i=4 by omega) with rfl|rfl|rfl|rfl|rfl
    · by_cases hz:n.k0=0
      · have d5:(n.k0 !=0)=false:=by simp [hz]
        have hbi':s.bad (n.kids.take 1)=false:=by rw [bad_take s n.kids 0 (by simp [Nd.kids]),hbi];simp [Nd.kids,hz]
        clear hz
        go_wp2_with fail
        go_roundw
        case rel=>exact ⟨1,by omega,rfl,hbi',trivial⟩
        case measure=>simp [intOf]
      · have d5:(n.k0 !=0)=true:=by simp [hz]
        by_cases hc:s.cnt n.k0=0
        · have d6:(s.cnt n.k0==0)=true:=by simp [hc]
          have hbad:s.bad n.kids=true:=by
            unfold Ar.bad;rw [List.any_eq_true];exact ⟨n.k0,by simp [Nd.kids],by simp [hz,hc]⟩
          clear hz hc
          go_wp2_with fail
          refine (count_calls _ _ (hA.alloc _)).mono ?_
          rintro e w1 ⟨rfl,rfl⟩
          go_wp2_with fail
          go_ret2
          exact ⟨by rw [make_bad h1 h2 hbad];rfl,by rw [make_bad h1 h2 hbad];exact ⟨O,hA.alloc _,(Fr.refl _ _ _).alloc _⟩⟩
        · have d6:(s.cnt n.k0==0)=false:=by simp [hc]
          have hbi':s.bad (n.kids.take 1)=false:=by rw [bad_take s n.kids 0 (by simp [Nd.kids]),hbi];simp [Nd.kids,hc]
          clear hz hc
          go_wp2_with fail
          refine (count_calls _ _ (hA.alloc _)).mono ?_
          rintro e w1 ⟨rfl,rfl⟩
          go_wp2_with fail
          go_roundw
          case rel=>exact ⟨1,by omega,rfl,hbi',trivial⟩
          case measure=>simp [intOf]
    · by_cases hz:n.k1=0
      · have d5:(n.k1 !=0)=false:=by simp [hz]
        have hbi':s.bad (n.kids.take 2)=false:=by rw [bad_take s n.kids 1 (by simp [Nd.kids]),hbi];simp [Nd.kids,hz]
        clear hz
        go_wp2_with fail
        go_roundw
        case rel=>exact ⟨2,by omega,rfl,hbi',trivial⟩
        case measure=>simp [intOf]
      · have d5:(n.k1 !=0)=true:=by simp [hz]
        by_cases hc:s.cnt n.k1=0
        · have d6:(s.cnt n.k1==0)=true:=by simp [hc]
          have hbad:s.bad n.kids=true:=by
            unfold Ar.bad;rw [List.any_eq_true];exact ⟨n.k1,by simp [Nd.kids],by simp [hz,hc]⟩
          clear hz hc
          go_wp2_with fail
          refine (count_calls _ _ (hA.alloc _)).mono ?_
          rintro e w1 ⟨rfl,rfl⟩
          go_wp2_with fail
          go_ret2
          exact ⟨by rw [make_bad h1 h2 hbad];rfl,by rw [make_bad h1 h2 hbad];exact ⟨O,hA.alloc _,(Fr.refl _ _ _).alloc _⟩⟩
        · have d6:(s.cnt n.k1==0)=false:=by simp [hc]
          have hbi':s.bad (n.kids.take 2)=false:=by rw [bad_take s n.kids 1 (by simp [Nd.kids]),hbi];simp [Nd.kids,hc]
          clear hz hc
          go_wp2_with fail
          refine (count_calls _ _ (hA.alloc _)).mono ?_
          rintro e w1 ⟨rfl,rfl⟩
          go_wp2_with fail
          go_roundw
          case rel=>exact ⟨2,by omega,rfl,hbi',trivial⟩
          case measure=>simp [intOf]
    · by_cases hz:n.k2=0
      · have d5:(n.k2 !=0)=false:=by simp [hz]
        have hbi':s.bad (n.kids.take 3)=false:=by rw [bad_take s n.kids 2 (by simp [Nd.kids]),hbi];simp [Nd.kids,hz]
        clear hz
        go_wp2_with fail
        go_roundw
        case rel=>exact ⟨3,by omega,rfl,hbi',trivial⟩
        case measure=>simp [intOf]
      · have d5:(n.k2 !=0)=true:=by simp [hz]
        by_cases hc:s.cnt n.k2=0
        · have d6:(s.cnt n.k2==0)=true:=by simp [hc]
          have hbad:s.bad n.kids=true:=by
            unfold Ar.bad;rw [List.any_eq_true];exact ⟨n.k2,by simp [Nd.kids],by simp [hz,hc]⟩
          clear hz hc
          go_wp2_with fail
          refine (count_calls _ _ (hA.alloc _)).mono ?_
          rintro e w1 ⟨rfl,rfl⟩
          go_wp2_with fail
          go_ret2
          exact ⟨by rw [make_bad h1 h2 hbad];rfl,by rw [make_bad h1 h2 hbad];exact ⟨O,hA.alloc _,(Fr.refl _ _ _).alloc _⟩⟩
        · have d6:(s.cnt n.k2==0)=false:=by simp [hc]
          have hbi':s.bad (n.kids.take 3)=false:=by rw [bad_take s n.kids 2 (by simp [Nd.kids]),hbi];simp [Nd.kids,hc]
          clear hz hc
          go_wp2_with fail
          refine (count_calls _ _ (hA.alloc _)).mono ?_
          rintro e w1 ⟨rfl,rfl⟩
          go_wp2_with fail
          go_roundw
          case rel=>exact ⟨3,by omega,rfl,hbi',trivial⟩
          case measure=>simp [intOf]
    · by_cases hz:n.k3=0
      · have d5:(n.k3 !=0)=false:=by simp [hz]
        have hbi':s.bad (n.kids.take 4)=false:=by rw [bad_take s n.kids 3 (by simp [Nd.kids]),hbi];simp [Nd.kids,hz]
        clear hz
        go_wp2_with fail
        go_roundw
        case rel=>exact ⟨4,by omega,rfl,hbi',trivial⟩
        case measure=>simp [intOf]
      · have d5:(n.k3 !=0)=true:=by simp [hz]
        by_cases hc:s.cnt n.k3=0
        · have d6:(s.cnt n.k3==0)=true:=by simp [hc]
          have hbad:s.bad n.kids=true:=by
            unfold Ar.bad;rw [List.any_eq_true];exact ⟨n.k3,by simp [Nd.kids],by simp [hz,hc]⟩
          clear hz hc
          go_wp2_with fail
          refine (count_calls _ _ (hA.alloc _)).mono ?_
          rintro e w1 ⟨rfl,rfl⟩
          go_wp2_with fail
          go_ret2
          exact ⟨by rw [make_bad h1 h2 hbad];rfl,by rw [make_bad h1 h2 hbad];exact ⟨O,hA.alloc _,(Fr.refl _ _ _).alloc _⟩⟩
        · have d6:(s.cnt n.k3==0)=false:=by simp [hc]
          have hbi':s.bad (n.kids.take 4)=false:=by rw [bad_take s n.kids 3 (by simp [Nd.kids]),hbi];simp [Nd.kids,hc]
          clear hz hc
          go_wp2_with fail
          refine (count_calls _ _ (hA.alloc _)).mono ?_
          rintro e w1 ⟨rfl,rfl⟩
          go_wp2_with fail
          go_roundw
          case rel=>exact ⟨4,by omega,rfl,hbi',trivial⟩
          case measure=>simp [intOf]
    · have hbad:s.bad n.kids=false:=hbi
      clear hbi
      by_cases hf:s.free=0
      · have d7:(s.free==0)=true:=by simp [hf]
        have hm:=Lib.hid (make_full h1 h2 hbad hf)
        clear hf hbad
        go_wp2_with fail
        refine (free_calls _ (hA.alloc _)).mono ?_
        rintro e w1 ⟨rfl,rfl⟩
        go_wp2_with fail
        go_ret2
        exact ⟨by rw [hm.out];rfl,by rw [hm.out];exact ⟨O,hA.alloc _,(Fr.refl _ _ _).alloc _⟩⟩
      · have d7:(s.free==0)=false:=by simp [hf]
        go_wp2_with fail
        refine (free_calls _ (hA.alloc _)).mono ?_
        rintro e w1 ⟨rfl,rfl⟩
        obtain ⟨f,hf1,hf2,hf3,hf4⟩:=Ar.free_spec hf
        rw [hf1] at d7⊢
        have hk: ∀k∈n.kids,k≠0→s.cnt k≠0:=fun k hk hk0 hc=>by
          have:s.bad n.kids=true:=by unfold Ar.bad;rw [List.any_eq_true];exact ⟨k,hk,by simp [hk0,hc]⟩
          rw [this] at hbad;cases hbad
        have HM:=Lib.hid (make_done h1 h2 hbad hf1 hf2)
        clear hf hf1 hbad hf4
        have HK:=Lib.hid hk;clear hk
        obtain ⟨p,nb,cb,ub,wv,rfl,hR⟩:=hA.raw (by omega)
        have hs:=hA.1.small
        have hl1:=lt_of hR.hp;have hl2:=lt_of hR.hn;have hl3:=lt_of hR.hc;have hl4:=lt_of hR.hu
        have hnO:=hA.new (Nat.le_refl _)
        have hW:=hA.1.make n hn
        rw [HM.out] at hW
        have HW:=Lib.hid hW;clear hW
        obtain ⟨tag,k0,k1,k2,k3,a,b⟩:=n
        dsimp only at*
        go_wp2_with fail
        go_loopw [39] (fun x wr=> ∃i:Nat,i≤4∧x= .int .i64 i∧MakeAt w wr p s nb cb ub wv O ⟨tag,k0,k1,k2,k3,a,b⟩ i) (fun x _=>4 - (intOf x).toNat)
        case atStart=>exact ⟨0,by omega,rfl,hR.alloc _,blk_new _ _ _ rfl,(Fr.refl _ _ _).alloc _,hnO⟩
        case round=>
          obtain ⟨i,hi,rfl,hM⟩:=hrel
          rcases (show i=0∨i=1∨i=2∨i=3∨i=4 by omega) with rfl|rfl|rfl|rfl|rfl
          · by_cases hz:k0=0
            · have d5:(k0 !=0)=false:=by simp [hz]
              have hM':=Lib.hid (hM.skip k0 rfl hz)
              clear hz hM
              go_wp2_with fail
              go_roundw
              case rel=>exact ⟨1,by omega,rfl,hM'.out⟩
              case measure=>simp [intOf]
            · have d5:(k0 !=0)=true:=by simp [hz]
              obtain ⟨m,rfl,m1,m2, -⟩:=Ar.cnt_pos (HK.out k0 (by simp [Nd.kids]) hz)
              have cp:=hM.cp;have fc:=free_of hM.raw.hc
              obtain ⟨c,cc,hc⟩:=hM.cc m m2
              have hM':=Lib.hid (hc m rfl hz rfl)
              have d3:(m:Int)<(s.size:Int)+1:=by omega
              have d4:(0:Int)≤(m:Int):=by omega
              clear hz hM hc
              go_wp2_with fail
              go_roundw
              case rel=>exact ⟨1,by omega,rfl,hM'.out⟩
              case measure=>simp [intOf]
          · by_cases hz:k1=0
            · have d5:(k1 !=0)=false:=by simp [hz]
              have hM':=Lib.hid (hM.skip k1 rfl hz)
              clear hz hM
              go_wp2_with fail
              go_roundw
              case rel=>exact ⟨2,by omega,rfl,hM'.out⟩
              case measure=>simp [intOf]
            · have d5:(k1 !=0)=true:=by simp [hz]
              obtain ⟨m,rfl,m1,m2, -⟩:=Ar.cnt_pos (HK.out k1 (by simp [Nd.kids]) hz)
              have cp:=hM.cp;have fc:=free_of hM.raw.hc
              obtain ⟨c,cc,hc⟩:=hM.cc m m2
              have hM':=Lib.hid (hc m rfl hz rfl)
              have d3:(m:Int)<(s.size:Int)+1:=by omega
              have d4:(0:Int)≤(m:Int):=by omega
              clear hz hM hc
              go_wp2_with fail
              go_roundw
              case rel=>exact ⟨2,by omega,rfl,hM'.out⟩
              case measure=>simp [intOf]
          · by_cases hz:k2=0
            · have d5:(k2 !=0)=false:=by simp [hz]
              have hM':=Lib.hid (hM.skip k2 rfl hz)
              clear hz hM
              go_wp2_with fail
              go_roundw
              case rel=>exact ⟨3,by omega,rfl,hM'.out⟩
              case measure=>simp [intOf]
            · have d5:(k2 !=0)=true:=by simp [hz]
              obtain ⟨m,rfl,m1,m2, -⟩:=Ar.cnt_pos (HK.out k2 (by simp [Nd.kids]) hz)
              have cp:=hM.cp;have fc:=free_of hM.raw.hc
              obtain ⟨c,cc,hc⟩:=hM.cc m m2
              have hM':=Lib.hid (hc m rfl hz rfl)
              have d3:(m:Int)<(s.size:Int)+1:=by omega
              have d4:(0:Int)≤(m:Int):=by omega
              clear hz hM hc
              go_wp2_with fail
              go_roundw
              case rel=>exact ⟨3,by omega,rfl,hM'.out⟩
              case measure=>simp [intOf]
          · by_cases hz:k3=0
            · have d5:(k3 !=0)=false:=by simp [hz]
              have hM':=Lib.hid (hM.skip k3 rfl hz)
              clear hz hM
              go_wp2_with fail
              go_roundw
              case rel=>exact ⟨4,by omega,rfl,hM'.out⟩
              case measure=>simp [intOf]
            · have d5:(k3 !=0)=true:=by simp [hz]
              obtain ⟨m,rfl,m1,m2, -⟩:=Ar.cnt_pos (HK.out k3 (by simp [Nd.kids]) hz)
              have cp:=hM.cp;have fc:=free_of hM.raw.hc
              obtain ⟨c,cc,hc⟩:=hM.cc m m2
              have hM':=Lib.hid (hc m rfl hz rfl)
              have d3:(m:Int)<(s.size:Int)+1:=by omega
              have d4:(0:Int)≤(m:Int):=by omega
              clear hz hM hc
              go_wp2_with fail
              go_roundw
              case rel=>exact ⟨4,by omega,rfl,hM'.out⟩
              case measure=>simp [intOf]
          · have cp:=hM.cp;have cn:=cells_of hM.blk
            unfold Nd.cells at cn;dsimp only at cn
            obtain ⟨-,cc,cu,n0,n1,n2,n3,n4,n5,n6⟩:=hM.raw.reads
            have cc:=cc f hf3;have cu:=cu f hf3;have n0:=n0 f hf3;have n1:=n1 f hf3;have n2:=n2 f hf3;have n3:=n3 f hf3;have n4:=n4 f hf3;have n5:=n5 f hf3;have n6:=n6 f hf3
            dsimp only at cc cu n0 n1 n2 n3 n4 n5 n6
            have hne1:=hM.raw.pn;have hne2:=hM.raw.pc;have hne3:=hM.raw.pu;have hne4:=hM.raw.nc;have hne5:=hM.raw.nu;have hne6:=hM.raw.cu
            have hx1:w.heap.size≠nb:=fun e=>hM.no (by rw [e];exact hM.raw.on)
            have hx2:w.heap.size≠cb:=fun e=>hM.no (by rw [e];exact hM.raw.oc)
            have hx3:w.heap.size≠ub:=fun e=>hM.no (by rw [e];exact hM.raw.ou)
            have fn:=free_of hM.raw.hn;have fc:=free_of hM.raw.hc;have fu:=free_of hM.raw.hu
            have d3:(f:Int)<(s.size:Int)+1:=by omega
            have d4:(0:Int)≤(f:Int):=by omega
            go_wp2_with fail
            go_region
            have HM2:=Lib.hid hM;clear hM
            clear cc cu n0 n1 n2 n3 n4 n5 n6 cn fn fc fu
            have fp:=free_of HM2.out.raw.hp
            go_wp2_with fail
            go_ret2
            have hR2:=HM2.out.raw
            have hfin:=((((((((((hR2.setN (f*7) (.int .i64 tag)).setN (f*7+1) (.int .i64 k0)).setN (f*7+2) (.int .i64 k1)).setN (f*7+3) (.int .i64 k2)).setN (f*7+4) (.int .i64 k3)).setN (f*7+5) (.int .u64 a)).setN (f*7+6) (.int .u64 b)).setC f (.int .i64 1)).setU f (.bool true)).setB (wrap64 (s.busy+1))).setM (wrap64 (s.made+1))
            have hf0:=HM2.out.fr
            have o1:=hR2.op;have o2:=hR2.on;have o3:=hR2.oc;have o4:=hR2.ou
            refine ⟨by rw [HM.out];rfl,O,?_,?_⟩
            rotate_left
            · clear hfin
              exact (((((((((((hf0.ownSet (q:=_) (by exact o2) _).ownSet (q:=_) (by exact o2) _).ownSet (q:=_) (by exact o2) _).ownSet (q:=_) (by exact o2) _).ownSet (q:=_) (by exact o2) _).ownSet (q:=_) (by exact o2) _).ownSet (q:=_) (by exact o2) _).ownSet (q:=_) (by exact o3) _).ownSet (q:=_) (by exact o4) _).ownSet (q:=_) (by exact o1) _).ownSet (q:=_) (by exact o1) _).drew
            have hW:=HW.out
            rw [HM.out]
            refine (AP.of_raw (nb:=nb) (cb:=cb) (ub:=ub) (wv:=wv) (s:={s with node:=upd s.node f ⟨tag,k0,k1,k2,k3,a,b⟩,count:=upd (incAll s.count (Nd.kids ⟨tag,k0,k1,k2,k3,a,b⟩)) f 1,used:=upd s.used f true,busy:=wrap64 (s.busy+1),made:=wrap64 (s.made+1)}) ?_ hW).drew
            refine hfin.congr (fun i _=>(nodeF_upd _ f ⟨tag,k0,k1,k2,k3,a,b⟩ i).trans ?_) (fun i _=> ?_) (fun i _=> ?_)
            · rfl
            · unfold updF countF upd;dsimp only;split<;>rfl
            · unfold updF usedF upd;dsimp only;split<;>rfl
theorem make_calls (n : Nd) (hn : U64 n.a) (w : World) (hA : AP w ap s O) :
    Calls Tryz.prog 66 #[ap,n.val] w fun e w'=>e= .returned (.tuple #[.int .i64 (s.make n).1, .int .i64 (s.make n).2.1])∧Did noX ap (s.make n).2.2 O w w':=by
  by_cases ht:n.tag<1∨6<n.tag
  · refine (make_tag n ht w hA).mono ?_
    rintro e w1 ⟨rfl,hb⟩
    unfold Ar.make;rw [if_pos ht];exact ⟨rfl,O,hA.below hb,Fr.of_below hb⟩
  · exact make_calls0 n (by omega) (by omega) hn w hA
end Go.Proofs.YtdjpjmkpndmhaaaGreat
namespace Go.Proofs.YtdjpjmkpndmhaaaGreat
open Go.RowKit
attribute [local go_sem ↓] Go.wp_at_zero Go.wp_at_succ
attribute [local go_sem] lt_s2 lt_s3 lt_s4
attribute [local go_sem] idx0 idx1 idx2 idx3
variable {ap : Value} {s : Ar} {O : Nat → Prop}
set_option maxRecDepth 100000 in
set_option maxHeartbeats 4000000 in
theorem wMade_calls (n : Nd) (hn : U64 n.a) (e : Int) (w : World) (hA : AP w ap s O) :
    Calls Tryz.prog 140 #[ap,n.val, .int .i64 e] w fun e' w'=>e'= .returned (.tuple #[.int .i64 (wMade s n e).1, .int .i64 (wMade s n e).2.1])∧Did noX ap (wMade s n e).2.2 O w w':=by
  by_cases h1:e=0∧n.k0≠0
  · have d1:(e==0)=true:=by simpa using h1.1
    have d2:(n.k0 !=0)=true:=by simpa using h1.2
    have E:Hid (wMade s n e=((s.make n).1,(s.make n).2.1,(s.make n).2.2.dropAll n.kids)):=by show _=_;unfold wMade;rw [if_pos h1]
    clear h1
    unfold Nd.val
    go_enter Tryz.func140,Tryz.ntmps140
    go_wp2_with fail
    refine calls_gen fun V hV_V=> ?_
    have n_kn:=hbk hV_V (w.heap.size)
    simp (maxDischargeDepth:=9) only [BK,not_false_eq_true,reduceCtorEq] at n_kn
    have o_kn: ¬O (w.heap.size):=by first|exact hA.new (Nat.le_refl _)|exact hA.new (by omega)
    have hF:Fr (noX) O O w V:=nF hV_V
    replace hA:AP V ap s O:=nA hV_V
    have z_V:=zS hV_V
    clear hV_V
    have kn:=n_kn;clear n_kn
    obtain ⟨c_kn,f_kn,l_kn_V⟩:=f3 kn
    refine (make_calls n hn _ hA).mono ?_
    rintro e_W1 W1 ⟨rfl,O1,hA_W1,hf_W1⟩
    have q_kn:=hf_W1.keep kn o_kn (fun h=>h)
    replace o_kn:=hf_W1.not_own (lt_of kn) o_kn
    clear kn c_kn f_kn;have kn:=q_kn;clear q_kn
    obtain ⟨c_kn,f_kn,l_kn_W1⟩:=f3 kn
    replace hF:=hF.trans hf_W1.widen
    have z_W1:=hf_W1.size
    clear hA hf_W1;have hA:=hA_W1;clear hA_W1
    go_wp2_with fail
    go_loopw [27] (fun x wr=> ∃i:Nat,i≤4∧x= .int .i64 i∧ ∃O',AP wr ap (((s.make n).2.2).dropAll (n.kids.take i)) O'∧Fr noX O O' w wr) (fun x _=>4 - (intOf x).toNat)
    case atStart=>exact ⟨0,by omega,rfl,_,hA,hF⟩
    case round=>
      obtain ⟨i,hi,rfl,O',hA',hF'⟩:=hrel
      rcases (show i=0∨i=1∨i=2∨i=3∨i=4 by omega) with rfl|rfl|rfl|rfl|rfl
      · have HA:=Lib.hid hA';have HF:=Lib.hid hF';clear hA' hF'
        go_wp2_with fail
        refine (drop_calls _ _ HA.out).mono ?_
        rintro e1 w1 ⟨rfl,O1,hA1,hf1⟩
        go_wp2_with fail
        go_roundw
        case rel=>exact ⟨1,by omega,rfl,O1,hA1,HF.out.trans hf1⟩
        case measure=>simp [intOf]
      · have HA:=Lib.hid hA';have HF:=Lib.hid hF';clear hA' hF'
        go_wp2_with fail
        refine (drop_calls _ _ HA.out).mono ?_
        rintro e1 w1 ⟨rfl,O1,hA1,hf1⟩
        go_wp2_with fail
        go_roundw
        case rel=>exact ⟨2,by omega,rfl,O1,hA1,HF.out.trans hf1⟩
        case measure=>simp [intOf]
      · have HA:=Lib.hid hA';have HF:=Lib.hid hF';clear hA' hF'
        go_wp2_with fail
        refine (drop_calls _ _ HA.out).mono ?_
        rintro e1 w1 ⟨rfl,O1,hA1,hf1⟩
        go_wp2_with fail
        go_roundw
        case rel=>exact ⟨3,by omega,rfl,O1,hA1,HF.out.trans hf1⟩
        case measure=>simp [intOf]
      · have HA:=Lib.hid hA';have HF:=Lib.hid hF';clear hA' hF'
        go_wp2_with fail
        refine (drop_calls _ _ HA.out).mono ?_
        rintro e1 w1 ⟨rfl,O1,hA1,hf1⟩
        go_wp2_with fail
        go_roundw
        case rel=>exact ⟨4,by omega,rfl,O1,hA1,HF.out.trans hf1⟩
        case measure=>simp [intOf]
      · have HA:=Lib.hid hA';have HF:=Lib.hid hF';clear hA' hF'
        go_wp2_with fail
        go_ret2
        exact ⟨by rw [E.out];rfl,by rw [E.out];exact ⟨O',HA.out,HF.out⟩⟩
  · have E:Hid (wMade s n e=(0,e,s.dropAll n.kids)):=by show _=_;unfold wMade;rw [if_neg h1]
    by_cases h2:e=0
    · have d1:(e==0)=true:=by simpa using h2
      have d2:(n.k0 !=0)=false:=by simp;exact Classical.byContradiction fun h=>h1 ⟨h2,h⟩
      clear h1 h2
      unfold Nd.val
      go_enter Tryz.func140,Tryz.ntmps140
      have hF:=(Fr.refl noX O w).alloc (.cells #[.int .i64 n.tag, .int .i64 n.k0, .int .i64 n.k1, .int .i64 n.k2, .int .i64 n.k3, .int .u64 n.a, .int .u64 n.b] 93 (0,0))
      replace hA:=hA.alloc (.cells #[.int .i64 n.tag, .int .i64 n.k0, .int .i64 n.k1, .int .i64 n.k2, .int .i64 n.k3, .int .u64 n.a, .int .u64 n.b] 93 (0,0))
      go_wp2_with fail
      go_loopw [27] (fun x wr=> ∃i:Nat,i≤4∧x= .int .i64 i∧ ∃O',AP wr ap ((s).dropAll (n.kids.take i)) O'∧Fr noX O O' w wr) (fun x _=>4 - (intOf x).toNat)
      case atStart=>exact ⟨0,by omega,rfl,_,hA,hF⟩
      case round=>
        obtain ⟨i,hi,rfl,O',hA',hF'⟩:=hrel
        rcases (show i=0∨i=1∨i=2∨i=3∨i=4 by omega) with rfl|rfl|rfl|rfl|rfl
        · have HA:=Lib.hid hA';have HF:=Lib.hid hF';clear hA' hF'
          go_wp2_with fail
          refine (drop_calls _ _ HA.out).mono ?_
          rintro e1 w1 ⟨rfl,O1,hA1,hf1⟩
          go_wp2_with fail
          go_roundw
          case rel=>exact ⟨1,by omega,rfl,O1,hA1,HF.out.trans hf1⟩
          case measure=>simp [intOf]
        · have HA:=Lib.hid hA';have HF:=Lib.hid hF';clear hA' hF'
          go_wp2_with fail
          refine (drop_calls _ _ HA.out).mono ?_
          rintro e1 w1 ⟨rfl,O1,hA1,hf1⟩
          go_wp2_with fail
          go_roundw
          case rel=>exact ⟨2,by omega,rfl,O1,hA1,HF.out.trans hf1⟩
          case measure=>simp [intOf]
        · have HA:=Lib.hid hA';have HF:=Lib.hid hF';clear hA' hF'
          go_wp2_with fail
          refine (drop_calls _ _ HA.out).mono ?_
          rintro e1 w1 ⟨rfl,O1,hA1,hf1⟩
          go_wp2_with fail
          go_roundw
          case rel=>exact ⟨3,by omega,rfl,O1,hA1,HF.out.trans hf1⟩
          case measure=>simp [intOf]
        · have HA:=Lib.hid hA';have HF:=Lib.hid hF';clear hA' hF'
          go_wp2_with fail
          refine (drop_calls _ _ HA.out).mono ?_
          rintro e1 w1 ⟨rfl,O1,hA1,hf1⟩
          go_wp2_with fail
          go_roundw
          case rel=>exact ⟨4,by omega,rfl,O1,hA1,HF.out.trans hf1⟩
          case measure=>simp [intOf]
        · have HA:=Lib.hid hA';have HF:=Lib.hid hF';clear hA' hF'
          go_wp2_with fail
          go_ret2
          exact ⟨by rw [E.out];rfl,by rw [E.out];exact ⟨O',HA.out,HF.out⟩⟩
    · have d1:(e==0)=false:=by simpa using h2
      clear h1 h2
      unfold Nd.val
      go_enter Tryz.func140,Tryz.ntmps140
      have hF:=(Fr.refl noX O w).alloc (.cells #[.int .i64 n.tag, .int .i64 n.k0, .int .i64 n.k1, .int .i64 n.k2, .int .i64 n.k3, .int .u64 n.a, .int .u64 n.b] 93 (0,0))
      replace hA:=hA.alloc (.cells #[.int .i64 n.tag, .int .i64 n.k0, .int .i64 n.k1, .int .i64 n.k2, .int .i64 n.k3, .int .u64 n.a, .int .u64 n.b] 93 (0,0))
      go_wp2_with fail
      go_loopw [27] (fun x wr=> ∃i:Nat,i≤4∧x= .int .i64 i∧ ∃O',AP wr ap ((s).dropAll (n.kids.take i)) O'∧Fr noX O O' w wr) (fun x _=>4 - (intOf x).toNat)
      case atStart=>exact ⟨0,by omega,rfl,_,hA,hF⟩
      case round=>
        obtain ⟨i,hi,rfl,O',hA',hF'⟩:=hrel
        rcases (show i=0∨i=1∨i=2∨i=3∨i=4 by omega) with rfl|rfl|rfl|rfl|rfl
        · have HA:=Lib.hid hA';have HF:=Lib.hid hF';clear hA' hF'
          go_wp2_with fail
          refine (drop_calls _ _ HA.out).mono ?_
          rintro e1 w1 ⟨rfl,O1,hA1,hf1⟩
          go_wp2_with fail
          go_roundw
          case rel=>exact ⟨1,by omega,rfl,O1,hA1,HF.out.trans hf1⟩
          case measure=>simp [intOf]
        · have HA:=Lib.hid hA';have HF:=Lib.hid hF';clear hA' hF'
          go_wp2_with fail
          refine (drop_calls _ _ HA.out).mono ?_
          rintro e1 w1 ⟨rfl,O1,hA1,hf1⟩
          go_wp2_with fail
          go_roundw
          case rel=>exact ⟨2,by omega,rfl,O1,hA1,HF.out.trans hf1⟩
          case measure=>simp [intOf]
        · have HA:=Lib.hid hA';have HF:=Lib.hid hF';clear hA' hF'
          go_wp2_with fail
          refine (drop_calls _ _ HA.out).mono ?_
          rintro e1 w1 ⟨rfl,O1,hA1,hf1⟩
          go_wp2_with fail
          go_roundw
          case rel=>exact ⟨3,by omega,rfl,O1,hA1,HF.out.trans hf1⟩
          case measure=>simp [intOf]
        · have HA:=Lib.hid hA';have HF:=Lib.hid hF';clear hA' hF'
          go_wp2_with fail
          refine (drop_calls _ _ HA.out).mono ?_
          rintro e1 w1 ⟨rfl,O1,hA1,hf1⟩
          go_wp2_with fail
          go_roundw
          case rel=>exact ⟨4,by omega,rfl,O1,hA1,HF.out.trans hf1⟩
          case measure=>simp [intOf]
        · have HA:=Lib.hid hA';have HF:=Lib.hid hF';clear hA' hF'
          go_wp2_with fail
          go_ret2
          exact ⟨by rw [E.out];rfl,by rw [E.out];exact ⟨O',HA.out,HF.out⟩⟩
end Go.Proofs.YtdjpjmkpndmhaaaGreat
namespace Go.Proofs.YtdjpjmkpndmhaaaGreat
open Go.RowKit
attribute [local go_sem ↓] Go.wp_at_zero Go.wp_at_succ
attribute [local go_sem] lt_s2 lt_s3 lt_s4
structure TB (w:World) (tb:Nat) (ap:Value) (t:Tb) (O:Nat→Prop):Prop where
 hA:AP w ap t.s O
 blk:w.heap[tb]? =some (.cells #[ap, .int .i64 t.e] 139 (0,0))
 no: ¬O tb
def DidT (tb:Nat) (ap:Value) (t':Tb) (O:Nat→Prop) (w w':World):Prop:= ∃O',TB w' tb ap t' O'∧Fr (oneX tb) O O' w w'
theorem did_gen {tb:Nat} {ap:Value} {t':Tb} {O:Nat→Prop} {w w':World} (h: ∀v,v=w'→DidT tb ap t' O w v):DidT tb ap t' O w w':=h w' rfl
variable {ap : Value} {O : Nat → Prop} {tb : Nat} {t : Tb}
theorem drop_take (s:Ar) (l:List Int) (i:Nat) (h:i<l.length):s.dropAll (l.take (i+1))=(s.dropAll (l.take i)).drop l[i]:=by
 unfold Ar.dropAll
 rw [List.take_succ_eq_append_getElem h,List.foldl_append];rfl
set_option maxRecDepth 100000 in
set_option maxHeartbeats 800000 in
theorem tDrop_calls (l:List Int) (b off c:Nat) (cs:Array Value) (T:TypeId) (hl:l.length≤100) (w:World) (hT:TB w tb ap t O) (hcs:w.heap[b]? =some (.cells cs T (0,0))) (hcell: ∀j (h:j<l.length),cs[off+j]? =some (.int .i64 l[j])) (ho: ¬O b) (hb:b≠tb) (n:Nat) (hn:l.length=n):
  Calls Tryz.prog 170 #[.pointer (some ⟨tb,0,none⟩), .slice (some ⟨b,off,none⟩) n c] w fun e w'=>e= .returned (.tuple #[])∧DidT tb ap (t.drops l) O w w':=by
 subst hn
 have Hcell:=Lib.hid hcell;clear hcell
 go_enter Tryz.func170,Tryz.ntmps170
 have hA:=hT.hA
 have kt:=hT.blk
 have o_kt:=hT.no
 obtain ⟨c_kt,f_kt,l_kt_w⟩:=f3 kt
 go_wp2_with fail
 go_loopw [8] (fun x wr=> ∃i:Nat,i≤l.length∧x= .int .i64 i∧wr.heap[b]? =some (.cells cs T (0,0))∧ ∃O',TB wr tb ap (t.drops (l.take i)) O'∧Fr (oneX tb) O O' w wr∧ ¬O' b) (fun x _=>l.length - (intOf x).toNat)
 case atStart=>exact ⟨0,Nat.zero_le _,rfl,hcs,O,hT,Fr.refl _ _ _,ho⟩
 case round=>
  obtain ⟨i,hi,rfl,hcs',O',hT',hF',ho'⟩:=hrel
  clear hA kt o_kt c_kt f_kt
  by_cases hlt:i<l.length
  ·
   have d1:decide (i<l.length)=true:=by simpa using hlt
   have cb:=cells_of hcs'
   have ci:wr.cell? ⟨b,off+i,none⟩=some (.int .i64 l[i]):=by rw [cb];exact Hcell.out i hlt
   have ct:=cells_of hT'.blk
   have HT:=Lib.hid hT';have HF:=Lib.hid hF'
   have HD:Hid ((t.drops (l.take (i+1))).s=((t.drops (l.take i)).s).drop l[i]):=Lib.hid (drop_take t.s l i hlt)
   clear hT' hF' cb
   go_wp2_with fail
   refine (drop_calls _ _ HT.out.hA).mono ?_
   rintro e w1 ⟨rfl,O1,hA1,hf1⟩
   go_wp2_with fail
   go_roundw
   case rel=>
    refine ⟨i+1,by omega,by go_num,hf1.keep hcs' ho' (fun h=>h),O1,⟨?_,hf1.keep HT.out.blk HT.out.no (fun h=>h),hf1.not_own (lt_of HT.out.blk) HT.out.no⟩,HF.out.trans hf1.widen,hf1.not_own (lt_of hcs') ho'⟩
    rw [HD.out];exact hA1
   case measure=>simp [intOf];omega
  ·
   have d1:decide (i<l.length)=false:=by simpa using hlt
   obtain rfl:i=l.length:=by omega
   rw [List.take_length] at hT'
   go_wp2_with fail
   go_end0
   exact ⟨rfl,O',hT',hF'⟩
set_option maxRecDepth 100000 in
set_option maxHeartbeats 800000 in
theorem tKeep_calls (h:Int) (w:World) (hT:TB w tb ap t O):
  Calls Tryz.prog 146 #[.pointer (some ⟨tb,0,none⟩), .int .i64 h] w fun e w'=>e= .returned (.int .i64 h)∧DidT tb ap (t.keep h) O w w':=by
 go_enter Tryz.func146,Tryz.ntmps146
 have hA:=hT.hA
 have kt:=hT.blk
 have o_kt:=hT.no
 obtain ⟨c_kt,f_kt,l_kt_w⟩:=f3 kt
 go_wp2_with fail
 refine calls_gen fun V hV_V=> ?_
 replace kt:=kK hV_V kt
 have hF:Fr (oneX tb) O O w V:=nF hV_V
 replace hA:AP V ap t.s O:=nA hV_V
 have z_V:=zS hV_V
 clear hV_V c_kt f_kt
 obtain ⟨c_kt,f_kt,l_kt_V⟩:=f3 kt
 refine (keep_calls _ _ hA).mono ?_
 rintro e_W W ⟨rfl,O1,hA_W,hf_W⟩
 have q_kt:=hf_W.keep kt o_kt (fun h=>h)
 replace o_kt:=hf_W.not_own (lt_of kt) o_kt
 clear kt c_kt f_kt;have kt:=q_kt;clear q_kt
 obtain ⟨c_kt,f_kt,l_kt_W⟩:=f3 kt
 replace hF:=hF.trans hf_W.widen
 have z_W:=hf_W.size
 clear hA hf_W;have hA:=hA_W;clear hA_W
 go_wp2_with fail
 go_ret
 refine ⟨rfl,O1,⟨hA,kt,o_kt⟩,hF⟩
theorem kids_cell (n:Nd) (j:Nat) (h:j<n.kids.length):n.cells[1+j]? =some (.int .i64 n.kids[j]):=by
 have:n.kids.length=4:=rfl
 rcases (show j=0∨j=1∨j=2∨j=3 by omega) with rfl|rfl|rfl|rfl<;>rfl
set_option maxRecDepth 100000 in
set_option maxHeartbeats 800000 in
theorem tNode_calls (n:Nd) (hn:U64 n.a) (w:World) (hT:TB w tb ap t O):
  Calls Tryz.prog 169 #[.pointer (some ⟨tb,0,none⟩),n.val] w fun e w'=>e= .returned (.int .i64 (t.node n).1)∧DidT tb ap (t.node n).2 O w w':=by
 by_cases he:t.e=0
 ·
  have d1:(t.e==0)=true:=by simpa using he
  have e1:Hid (t.node n=((t.s.make n).1,⟨(t.s.make n).2.2.dropAll n.kids,(t.s.make n).2.1⟩)):=by
   show _=_
   unfold Tb.node Tb.nodeD;rw [if_pos he]
  clear he
  unfold Nd.val
  go_enter Tryz.func169,Tryz.ntmps169
  have hA:=hT.hA
  have kt:=hT.blk
  have o_kt:=hT.no
  obtain ⟨c_kt,f_kt,l_kt_w⟩:=f3 kt
  go_wp2_with fail
  refine wp_gen fun V hV_V=> ?_
  have n_kn:=hbk hV_V (w.heap.size)
  simp (maxDischargeDepth:=9) only [BK,not_false_eq_true,reduceCtorEq,kt,l_kt_w] at n_kn
  have o_kn: ¬O (w.heap.size):=by first|exact hA.new (Nat.le_refl _)|exact hA.new (by omega)
  replace kt:=kK hV_V kt
  have hF:Fr ((oneX tb)) O O w V:=nF hV_V
  replace hA:AP V ap t.s O:=nA hV_V
  have z_V:=zS hV_V
  clear hV_V c_kt f_kt
  obtain ⟨c_kt,f_kt,l_kt_V⟩:=f3 kt
  have kn:=n_kn;clear n_kn
  obtain ⟨c_kn,f_kn,l_kn_V⟩:=f3 kn
  refine wp_region_noPanic ?_
  refine wp_region_held_drew (S:=fun v=>(v.cell? ⟨tb,0,none⟩=V.cell? ⟨tb,0,none⟩)∧(∀o,v.cell? ⟨w.heap.size,o,none⟩=V.cell? ⟨w.heap.size,o,none⟩)∧(V.heap.size≤v.heap.size)∧True) (by kernel_rfl) ⟨rfl,(fun _=>rfl),(Nat.le_refl _),trivial⟩ (fun hHeld=> ?_)
  generalize hV_Vd:V.drew=Vd at hHeld⊢
  have d_kt:=dK hV_Vd kt
  have d_kn:=dK hV_Vd kn
  clear c_kt f_kt c_kn f_kn
  replace hA:=hA.drew;rw [hV_Vd] at hA
  replace hF:=hF.drew;rw [hV_Vd] at hF
  have z_Vd:=dZ hV_Vd
  have v_kt:=cells_of kt
  have v_kn:=cells_of kn
  clear kt;have kt:=d_kt;clear d_kt
  clear kn;have kn:=d_kn;clear d_kn
  obtain ⟨c_kt,f_kt,l_kt_Vd⟩:=f3 kt
  obtain ⟨c_kn,f_kn,l_kn_Vd⟩:=f3 kn
  clear hV_Vd
  refine tz 0 rfl hHeld ?_
  try simp only [PT]
  refine tz 1 rfl hHeld ?_
  try simp only [PT]
  refine tz 2 rfl hHeld ?_
  try simp only [PT]
  refine tz 3 rfl hHeld ?_
  try simp only [PT]
  refine tz 4 rfl hHeld ?_
  try simp only [PT]
  refine tz 5 rfl hHeld ?_
  try simp only [PT]
  refine rd 6 rfl fun K hK=> ?_
  go_simp
  try simp only [IntWalk.i64_left]
  refine (make_calls n hn _ hA).mono ?_
  rintro e_W W ⟨rfl,O1,hA_W,hf_W⟩
  have q_kt:=hf_W.keep kt o_kt (fun h=>h)
  have q_kn:=hf_W.keep kn o_kn (fun h=>h)
  replace o_kt:=hf_W.not_own (lt_of kt) o_kt
  clear kt c_kt f_kt;have kt:=q_kt;clear q_kt
  obtain ⟨c_kt,f_kt,l_kt_W⟩:=f3 kt
  replace o_kn:=hf_W.not_own (lt_of kn) o_kn
  clear kn c_kn f_kn;have kn:=q_kn;clear q_kn
  obtain ⟨c_kn,f_kn,l_kn_W⟩:=f3 kn
  replace hF:=hF.trans hf_W.widen
  have z_W:=hf_W.size
  clear hA hf_W;have hA:=hA_W;clear hA_W
  refine hK.out _ _ ⟨((c_kt 0).trans (v_kt 0).symm),(fun o=>(c_kn o).trans (v_kn o).symm),(by omega),trivial⟩ (fun hHeld=> ?_)
  clear hK K
  try simp only [PT]
  refine tz 7 rfl hHeld ?_
  try simp only [PT]
  refine tz 8 rfl hHeld ?_
  try simp only [PT]
  refine tz 9 rfl hHeld ?_
  try simp only [PT]
  refine rd 10 rfl fun K hK=> ?_
  go_simp
  refine hK.out _ _ hHeld (fun hHeld=> ?_)
  clear hK K
  try simp only [PT]
  refine tz 11 rfl hHeld ?_
  try simp only [PT]
  refine tz 12 rfl hHeld ?_
  try simp only [PT]
  refine rd 13 rfl fun K hK=> ?_
  go_simp
  refine gen_app (K:=K) (fun D hV_D=> ?_)
  replace kt:=kK hV_D kt
  replace kn:=kK hV_D kn
  replace hF:Fr ((oneX tb)) O O1 w D:=nF hV_D
  replace hA:AP D ap ((t.s.make n).2.2) O1:=nA hV_D
  have z_D:=zS hV_D
  clear hV_D c_kt f_kt c_kn f_kn
  obtain ⟨c_kt,f_kt,l_kt_D⟩:=f3 kt
  obtain ⟨c_kn,f_kn,l_kn_D⟩:=f3 kn
  refine hK.out _ _ ⟨((c_kt 0).trans (v_kt 0).symm),(fun o=>(c_kn o).trans (v_kn o).symm),(by omega),trivial⟩ (fun hHeld=> ?_)
  clear hK K
  try simp only [PT]
  refine wpAnyH_done (by kernel_rfl) ?_ _
  refine NoPanic.normal ?_
  go_wp2_with fail
  refine calls_gen fun D1 hV_D1=> ?_
  replace kt:=kK hV_D1 kt
  replace kn:=kK hV_D1 kn
  replace hF:Fr ((oneX tb)) O O1 w D1:=nF hV_D1
  replace hA:AP D1 ap ((t.s.make n).2.2) O1:=nA hV_D1
  have z_D1:=zS hV_D1
  clear hV_D1 c_kt f_kt c_kn f_kn
  obtain ⟨c_kt,f_kt,l_kt_D1⟩:=f3 kt
  obtain ⟨c_kn,f_kn,l_kn_D1⟩:=f3 kn
  refine (tDrop_calls (t:=⟨(t.s.make n).2.2,(t.s.make n).2.1⟩) n.kids w.heap.size 1 4 _ _ (by simp [Nd.kids]) _ ⟨hA,kt,o_kt⟩ kn (kids_cell n) o_kn (by omega) 4 rfl).mono ?_
  rintro e_W2 W2 ⟨rfl,O2,hT_W2,hf_W2⟩
  have q_kn:=hf_W2.keep kn o_kn (by unfold oneX;omega)
  replace o_kn:=hf_W2.not_own (lt_of kn) o_kn
  clear kn;have kn:=q_kn;clear q_kn
  obtain ⟨c_kn,f_kn,l_kn_W2⟩:=f3 kn
  clear kt c_kt f_kt o_kt;have kt:=hT_W2.blk;have o_kt:=hT_W2.no
  obtain ⟨c_kt,f_kt,l_kt_W2⟩:=f3 kt
  replace hF:=hF.trans hf_W2
  have z_W2:=hf_W2.size
  clear hA hf_W2;have hA:=hT_W2.hA;clear hT_W2
  go_wp2_with fail
  go_ret
  refine ⟨by rw [e1.out];rfl,?_⟩
  rw [e1.out]
  exact ⟨O2,⟨hA,kt,o_kt⟩,hF⟩
 ·
  have d1:(t.e==0)=false:=by simpa using he
  have e1:Hid (t.node n=(0,t.drops n.kids)):=by
   show _=_
   unfold Tb.node Tb.nodeD;rw [if_neg he]
  clear he
  unfold Nd.val
  go_enter Tryz.func169,Tryz.ntmps169
  have hA:=hT.hA
  have kt:=hT.blk
  have o_kt:=hT.no
  obtain ⟨c_kt,f_kt,l_kt_w⟩:=f3 kt
  go_wp2_with fail
  refine calls_gen fun D1 hV_D1=> ?_
  have n_kn:=hbk hV_D1 (w.heap.size)
  simp (maxDischargeDepth:=9) only [BK,not_false_eq_true,reduceCtorEq,kt,l_kt_w] at n_kn
  have o_kn: ¬O (w.heap.size):=by first|exact hA.new (Nat.le_refl _)|exact hA.new (by omega)
  replace kt:=kK hV_D1 kt
  have hF:Fr ((oneX tb)) O O w D1:=nF hV_D1
  replace hA:AP D1 ap t.s O:=nA hV_D1
  have z_D1:=zS hV_D1
  clear hV_D1 c_kt f_kt
  obtain ⟨c_kt,f_kt,l_kt_D1⟩:=f3 kt
  have kn:=n_kn;clear n_kn
  obtain ⟨c_kn,f_kn,l_kn_D1⟩:=f3 kn
  refine (tDrop_calls n.kids w.heap.size 1 4 _ _ (by simp [Nd.kids]) _ ⟨hA,kt,o_kt⟩ kn (kids_cell n) o_kn (by omega) 4 rfl).mono ?_
  rintro e_W2 W2 ⟨rfl,O2,hT_W2,hf_W2⟩
  have q_kn:=hf_W2.keep kn o_kn (by unfold oneX;omega)
  replace o_kn:=hf_W2.not_own (lt_of kn) o_kn
  clear kn;have kn:=q_kn;clear q_kn
  obtain ⟨c_kn,f_kn,l_kn_W2⟩:=f3 kn
  clear kt c_kt f_kt o_kt;have kt:=hT_W2.blk;have o_kt:=hT_W2.no
  obtain ⟨c_kt,f_kt,l_kt_W2⟩:=f3 kt
  replace hF:=hF.trans hf_W2
  have z_W2:=hf_W2.size
  clear hA hf_W2;have hA:=hT_W2.hA;clear hT_W2
  go_wp2_with fail
  go_ret
  refine ⟨by rw [e1.out];rfl,?_⟩
  rw [e1.out]
  exact ⟨O2,⟨hA,kt,o_kt⟩,hF⟩
set_option maxRecDepth 100000 in
set_option maxHeartbeats 800000 in
theorem tLeaf_calls (l:List Bool) (hl:l.length≤64) (w:World) (hT:TB w tb ap t O):
  Calls Tryz.prog 142 #[.pointer (some ⟨tb,0,none⟩), .agg #[.int .u64 (pack l:Int), .int .i64 (l.length:Int)]] w fun e w'=>e= .returned (.int .i64 (t.leaf l).1)∧DidT tb ap (t.leaf l).2 O w w':=by
 have hp:U64 (pack l:Int):=by
  have:=pack_lt64 hl
  exact ⟨by omega,by omega⟩
 have hu:IntKind.u64.wrap (l.length:Int)=(l.length:Int):=wrap_u64 (by omega) (by omega)
 have hu:=Lib.hid hu
 go_enter Tryz.func142,Tryz.ntmps142
 have hA:=hT.hA
 have kt:=hT.blk
 have o_kt:=hT.no
 obtain ⟨c_kt,f_kt,l_kt_w⟩:=f3 kt
 go_wp2_with fail
 refine calls_gen fun D1 hV_D1=> ?_
 have n_kn:=hbk hV_D1 (w.heap.size)
 simp (maxDischargeDepth:=9) only [BK,not_false_eq_true,reduceCtorEq,kt,l_kt_w] at n_kn
 have o_kn: ¬O (w.heap.size):=by first|exact hA.new (Nat.le_refl _)|exact hA.new (by omega)
 replace kt:=kK hV_D1 kt
 have hF:Fr ((oneX tb)) O O w D1:=nF hV_D1
 replace hA:AP D1 ap t.s O:=nA hV_D1
 have z_D1:=zS hV_D1
 clear hV_D1 c_kt f_kt
 obtain ⟨c_kt,f_kt,l_kt_D1⟩:=f3 kt
 have kn:=n_kn;clear n_kn
 obtain ⟨c_kn,f_kn,l_kn_D1⟩:=f3 kn
 refine (tNode_calls ⟨1,0,0,0,0,pack l,l.length⟩ hp _ ⟨hA,kt,o_kt⟩).mono ?_
 rintro e_W2 W2 ⟨rfl,O2,hT_W2,hf_W2⟩
 have q_kn:=hf_W2.keep kn o_kn (by unfold oneX;omega)
 replace o_kn:=hf_W2.not_own (lt_of kn) o_kn
 clear kn;have kn:=q_kn;clear q_kn
 obtain ⟨c_kn,f_kn,l_kn_W2⟩:=f3 kn
 clear kt c_kt f_kt o_kt;have kt:=hT_W2.blk;have o_kt:=hT_W2.no
 obtain ⟨c_kt,f_kt,l_kt_W2⟩:=f3 kt
 replace hF:=hF.trans hf_W2
 have z_W2:=hf_W2.size
 clear hA hf_W2;have hA:=hT_W2.hA;clear hT_W2
 go_wp2_with fail
 go_ret
 exact ⟨rfl,O2,⟨hA,kt,o_kt⟩,hF⟩
set_option maxRecDepth 100000 in
set_option maxHeartbeats 800000 in
theorem tPair_calls (x y:Int) (w:World) (hT:TB w tb ap t O):
  Calls Tryz.prog 171 #[.pointer (some ⟨tb,0,none⟩), .int .i64 x, .int .i64 y] w fun e w'=>e= .returned (.int .i64 (t.pair x y).1)∧DidT tb ap (t.pair x y).2 O w w':=by
 go_enter Tryz.func171,Tryz.ntmps171
 have hA:=hT.hA
 have kt:=hT.blk
 have o_kt:=hT.no
 obtain ⟨c_kt,f_kt,l_kt_w⟩:=f3 kt
 go_wp2_with fail
 refine wp_gen fun V hV_V=> ?_
 have n_kn:=hbk hV_V (w.heap.size)
 simp (maxDischargeDepth:=9) only [BK,not_false_eq_true,reduceCtorEq,kt,l_kt_w] at n_kn
 have o_kn: ¬O (w.heap.size):=by first|exact hA.new (Nat.le_refl _)|exact hA.new (by omega)
 replace kt:=kK hV_V kt
 have hF:Fr ((oneX tb)) O O w V:=nF hV_V
 replace hA:AP V ap t.s O:=nA hV_V
 have z_V:=zS hV_V
 clear hV_V c_kt f_kt
 obtain ⟨c_kt,f_kt,l_kt_V⟩:=f3 kt
 have kn:=n_kn;clear n_kn
 obtain ⟨c_kn,f_kn,l_kn_V⟩:=f3 kn
 refine wp_region_noPanic ?_
 refine wp_region_held_drew (S:=fun v=>(∀o,v.cell? ⟨tb,o,none⟩=V.cell? ⟨tb,o,none⟩)∧(V.heap.size≤v.heap.size)∧AP v ap t.s O) (by kernel_rfl) ⟨(fun _=>rfl),(Nat.le_refl _),hA.drew⟩ (fun hHeld=> ?_)
 generalize hV_Vd:V.drew=Vd at hHeld⊢
 have d_kt:=dK hV_Vd kt
 have d_kn:=dK hV_Vd kn
 clear c_kt f_kt c_kn f_kn
 replace hA:=hA.drew;rw [hV_Vd] at hA
 replace hF:=hF.drew;rw [hV_Vd] at hF
 have z_Vd:=dZ hV_Vd
 have v_kt:=cells_of kt
 clear kt;have kt:=d_kt;clear d_kt
 clear kn;have kn:=d_kn;clear d_kn
 obtain ⟨c_kt,f_kt,l_kt_Vd⟩:=f3 kt
 obtain ⟨c_kn,f_kn,l_kn_Vd⟩:=f3 kn
 clear hV_Vd
 refine tz 0 rfl hHeld ?_
 try simp only [PT]
 refine tz 1 rfl hHeld ?_
 try simp only [PT]
 refine tz 2 rfl hHeld ?_
 try simp only [PT]
 refine tz 3 rfl hHeld ?_
 try simp only [PT]
 refine tz 4 rfl hHeld ?_
 try simp only [PT]
 refine tz 6 rfl hHeld ?_
 try simp only [PT]
 refine tz 7 rfl hHeld ?_
 try simp only [PT]
 refine tz 8 rfl hHeld ?_
 try simp only [PT]
 refine tz 9 rfl hHeld ?_
 try simp only [PT]
 refine tz 10 rfl hHeld ?_
 try simp only [PT]
 refine rd 5 rfl fun K hK=> ?_
 go_simp
 try simp only [IntWalk.i64_left]
 refine (bLen_calls _ _ hA).mono ?_
 rintro e_W1 W1 ⟨rfl,hb_W1⟩
 replace hA:=hA.below hb_W1
 replace hF:=hF.below hb_W1
 replace kt:=keep_blk hb_W1 kt
 replace kn:=keep_blk hb_W1 kn
 have z_W1:=hb_W1.size
 clear hb_W1 c_kt f_kt c_kn f_kn
 obtain ⟨c_kt,f_kt,l_kt_W1⟩:=f3 kt
 obtain ⟨c_kn,f_kn,l_kn_W1⟩:=f3 kn
 refine hK.out _ _ ⟨(fun o=>(c_kt o).trans (v_kt o).symm),(by omega),hA⟩ (fun hHeld=> ?_)
 clear hK K
 try simp only [PT]
 refine rd 11 rfl fun K hK=> ?_
 go_simp
 try simp only [IntWalk.i64_left]
 refine (bLen_calls _ _ hA).mono ?_
 rintro e_W2 W2 ⟨rfl,hb_W2⟩
 replace hA:=hA.below hb_W2
 replace hF:=hF.below hb_W2
 replace kt:=keep_blk hb_W2 kt
 replace kn:=keep_blk hb_W2 kn
 have z_W2:=hb_W2.size
 clear hb_W2 c_kt f_kt c_kn f_kn
 obtain ⟨c_kt,f_kt,l_kt_W2⟩:=f3 kt
 obtain ⟨c_kn,f_kn,l_kn_W2⟩:=f3 kn
 refine hK.out _ _ ⟨(fun o=>(c_kt o).trans (v_kt o).symm),(by omega),hA⟩ (fun hHeld=> ?_)
 clear hK K
 try simp only [PT]
 refine tz 12 rfl hHeld ?_
 try simp only [PT]
 refine tz 13 rfl hHeld ?_
 try simp only [PT]
 refine tz 14 rfl hHeld ?_
 try simp only [PT]
 refine rd 15 rfl fun K hK=> ?_
 go_simp
 refine gen_app (K:=K) (fun D hV_D=> ?_)
 replace kt:=kK hV_D kt
 replace kn:=kK hV_D kn
 replace hF:Fr ((oneX tb)) O O w D:=nF hV_D
 replace hA:AP D ap t.s O:=nA hV_D
 have z_D:=zS hV_D
 clear hV_D c_kt f_kt c_kn f_kn
 obtain ⟨c_kt,f_kt,l_kt_D⟩:=f3 kt
 obtain ⟨c_kn,f_kn,l_kn_D⟩:=f3 kn
 refine hK.out _ _ ⟨(fun o=>(c_kt o).trans (v_kt o).symm),(by omega),hA⟩ (fun hHeld=> ?_)
 clear hK K
 try simp only [PT]
 refine wpAnyH_done (by kernel_rfl) ?_ _
 refine NoPanic.normal ?_
 go_wp2_with fail
 refine wp_gen fun V2 hV_V2=> ?_
 replace kt:=kK hV_V2 kt
 replace kn:=kK hV_V2 kn
 replace hF:Fr ((oneX tb)) O O w V2:=nF hV_V2
 replace hA:AP V2 ap t.s O:=nA hV_V2
 have z_V2:=zS hV_V2
 clear hV_V2 c_kt f_kt c_kn f_kn
 obtain ⟨c_kt,f_kt,l_kt_V2⟩:=f3 kt
 obtain ⟨c_kn,f_kn,l_kn_V2⟩:=f3 kn
 refine wp_region_noPanic ?_
 refine wp_region_held_drew (S:=fun v=>(∀o,v.cell? ⟨tb,o,none⟩=V2.cell? ⟨tb,o,none⟩)∧(V2.heap.size≤v.heap.size)∧AP v ap t.s O) (by kernel_rfl) ⟨(fun _=>rfl),(Nat.le_refl _),hA.drew⟩ (fun hHeld=> ?_)
 generalize hV_V2d:V2.drew=V2d at hHeld⊢
 have d_kt:=dK hV_V2d kt
 have d_kn:=dK hV_V2d kn
 clear c_kt f_kt c_kn f_kn
 replace hA:=hA.drew;rw [hV_V2d] at hA
 replace hF:=hF.drew;rw [hV_V2d] at hF
 have z_V2d:=dZ hV_V2d
 have v_kt:=cells_of kt
 clear kt;have kt:=d_kt;clear d_kt
 clear kn;have kn:=d_kn;clear d_kn
 obtain ⟨c_kt,f_kt,l_kt_V2d⟩:=f3 kt
 obtain ⟨c_kn,f_kn,l_kn_V2d⟩:=f3 kn
 clear hV_V2d
 refine tz 0 rfl hHeld ?_
 try simp only [PT]
 refine tz 1 rfl hHeld ?_
 try simp only [PT]
 refine tz 2 rfl hHeld ?_
 try simp only [PT]
 refine tz 3 rfl hHeld ?_
 try simp only [PT]
 refine tz 4 rfl hHeld ?_
 try simp only [PT]
 refine tz 6 rfl hHeld ?_
 try simp only [PT]
 refine tz 7 rfl hHeld ?_
 try simp only [PT]
 refine tz 8 rfl hHeld ?_
 try simp only [PT]
 refine tz 9 rfl hHeld ?_
 try simp only [PT]
 refine tz 10 rfl hHeld ?_
 try simp only [PT]
 refine rd 5 rfl fun K hK=> ?_
 go_simp
 try simp only [IntWalk.i64_left]
 refine (bOnes_calls _ _ hA).mono ?_
 rintro e_W3 W3 ⟨rfl,hb_W3⟩
 replace hA:=hA.below hb_W3
 replace hF:=hF.below hb_W3
 replace kt:=keep_blk hb_W3 kt
 replace kn:=keep_blk hb_W3 kn
 have z_W3:=hb_W3.size
 clear hb_W3 c_kt f_kt c_kn f_kn
 obtain ⟨c_kt,f_kt,l_kt_W3⟩:=f3 kt
 obtain ⟨c_kn,f_kn,l_kn_W3⟩:=f3 kn
 refine hK.out _ _ ⟨(fun o=>(c_kt o).trans (v_kt o).symm),(by omega),hA⟩ (fun hHeld=> ?_)
 clear hK K
 try simp only [PT]
 refine rd 11 rfl fun K hK=> ?_
 go_simp
 try simp only [IntWalk.i64_left]
 refine (bOnes_calls _ _ hA).mono ?_
 rintro e_W4 W4 ⟨rfl,hb_W4⟩
 replace hA:=hA.below hb_W4
 replace hF:=hF.below hb_W4
 replace kt:=keep_blk hb_W4 kt
 replace kn:=keep_blk hb_W4 kn
 have z_W4:=hb_W4.size
 clear hb_W4 c_kt f_kt c_kn f_kn
 obtain ⟨c_kt,f_kt,l_kt_W4⟩:=f3 kt
 obtain ⟨c_kn,f_kn,l_kn_W4⟩:=f3 kn
 refine hK.out _ _ ⟨(fun o=>(c_kt o).trans (v_kt o).symm),(by omega),hA⟩ (fun hHeld=> ?_)
 clear hK K
 try simp only [PT]
 refine tz 12 rfl hHeld ?_
 try simp only [PT]
 refine tz 13 rfl hHeld ?_
 try simp only [PT]
 refine tz 14 rfl hHeld ?_
 try simp only [PT]
 refine rd 15 rfl fun K hK=> ?_
 go_simp
 refine gen_app (K:=K) (fun D2 hV_D2=> ?_)
 replace kt:=kK hV_D2 kt
 replace kn:=kK hV_D2 kn
 replace hF:Fr ((oneX tb)) O O w D2:=nF hV_D2
 replace hA:AP D2 ap t.s O:=nA hV_D2
 have z_D2:=zS hV_D2
 clear hV_D2 c_kt f_kt c_kn f_kn
 obtain ⟨c_kt,f_kt,l_kt_D2⟩:=f3 kt
 obtain ⟨c_kn,f_kn,l_kn_D2⟩:=f3 kn
 refine hK.out _ _ ⟨(fun o=>(c_kt o).trans (v_kt o).symm),(by omega),hA⟩ (fun hHeld=> ?_)
 clear hK K
 try simp only [PT]
 refine wpAnyH_done (by kernel_rfl) ?_ _
 refine NoPanic.normal ?_
 go_wp2_with fail
 refine calls_gen fun V3 hV_V3=> ?_
 replace kt:=kK hV_V3 kt
 replace kn:=kK hV_V3 kn
 replace hF:Fr ((oneX tb)) O O w V3:=nF hV_V3
 replace hA:AP V3 ap t.s O:=nA hV_V3
 have z_V3:=zS hV_V3
 clear hV_V3 c_kt f_kt c_kn f_kn
 obtain ⟨c_kt,f_kt,l_kt_V3⟩:=f3 kt
 obtain ⟨c_kn,f_kn,l_kn_V3⟩:=f3 kn
 have hu:U64 (u64 (wrap64 (bLen t.s x+bLen t.s y))):=U64.u64 _
 refine (tNode_calls ⟨2,x,y,0,0,u64 (wrap64 (bLen t.s x+bLen t.s y)),u64 (wrap64 (bOnes t.s x+bOnes t.s y))⟩ hu _ ⟨hA,kt,o_kt⟩).mono ?_
 rintro e_W5 W5 ⟨rfl,O2,hT_W5,hf_W5⟩
 have q_kn:=hf_W5.keep kn o_kn (by unfold oneX;omega)
 replace o_kn:=hf_W5.not_own (lt_of kn) o_kn
 clear kn;have kn:=q_kn;clear q_kn
 obtain ⟨c_kn,f_kn,l_kn_W5⟩:=f3 kn
 clear kt c_kt f_kt o_kt;have kt:=hT_W5.blk;have o_kt:=hT_W5.no
 obtain ⟨c_kt,f_kt,l_kt_W5⟩:=f3 kt
 replace hF:=hF.trans hf_W5
 have z_W5:=hf_W5.size
 clear hA hf_W5;have hA:=hT_W5.hA;clear hT_W5
 go_wp2_with fail
 go_ret
 exact ⟨rfl,O2,⟨hA,kt,o_kt⟩,hF⟩
theorem two_cell (x y:Int) (j:Nat) (h:j<[x,y].length):(#[Value.int .i64 x,Value.int .i64 y]:Array Value)[0+j]? =some (.int .i64 [x,y][j]):=by
 have:[x,y].length=2:=rfl
 rcases (show j=0∨j=1 by omega) with rfl|rfl<;>rfl
theorem one_cell (x:Int) (j:Nat) (h:j<[x].length):(#[Value.int .i64 x]:Array Value)[0+j]? =some (.int .i64 [x][j]):=by
 have:[x].length=1:=rfl
 rcases (show j=0 by omega) with rfl;rfl
set_option maxRecDepth 100000 in
set_option maxHeartbeats 800000 in
theorem tPairOr_calls (x y:Int) (w:World) (hT:TB w tb ap t O):
  Calls Tryz.prog 144 #[.pointer (some ⟨tb,0,none⟩), .int .i64 x, .int .i64 y] w fun e w'=>e= .returned (.int .i64 (t.pairOr x y).1)∧DidT tb ap (t.pairOr x y).2 O w w':=by
 by_cases he:t.e=0
 ·
  have d1:(t.e !=0)=false:=by simp [he]
  have e1:Hid (t.pairOr x y=t.pair x y):=by show _=_;unfold Tb.pairOr;rw [if_pos he]
  clear he
  go_enter Tryz.func144,Tryz.ntmps144
  have hA:=hT.hA
  have kt:=hT.blk
  have o_kt:=hT.no
  obtain ⟨c_kt,f_kt,l_kt_w⟩:=f3 kt
  go_wp2_with fail
  refine calls_gen fun V hV_V=> ?_
  replace kt:=kK hV_V kt
  have hF:Fr ((oneX tb)) O O w V:=nF hV_V
  replace hA:AP V ap t.s O:=nA hV_V
  have z_V:=zS hV_V
  clear hV_V c_kt f_kt
  obtain ⟨c_kt,f_kt,l_kt_V⟩:=f3 kt
  refine (tPair_calls x y _ ⟨hA,kt,o_kt⟩).mono ?_
  rintro e_W1 W1 ⟨rfl,O1,hT_W1,hf_W1⟩
  clear kt c_kt f_kt o_kt;have kt:=hT_W1.blk;have o_kt:=hT_W1.no
  obtain ⟨c_kt,f_kt,l_kt_W1⟩:=f3 kt
  replace hF:=hF.trans hf_W1
  have z_W1:=hf_W1.size
  clear hA hf_W1;have hA:=hT_W1.hA;clear hT_W1
  go_wp2_with fail
  go_ret
  rw [e1.out]
  exact ⟨rfl,O1,⟨hA,kt,o_kt⟩,hF⟩
 ·
  have d1:(t.e !=0)=true:=by simp [he]
  have e1:Hid (t.pairOr x y=(0,t.drops [x,y])):=by show _=_;unfold Tb.pairOr;rw [if_neg he]
  clear he
  go_enter Tryz.func144,Tryz.ntmps144
  have hA:=hT.hA
  have kt:=hT.blk
  have o_kt:=hT.no
  obtain ⟨c_kt,f_kt,l_kt_w⟩:=f3 kt
  go_wp2_with fail
  refine calls_gen fun V hV_V=> ?_
  have n_kl:=hbk hV_V (w.heap.size)
  simp (maxDischargeDepth:=9) only [BK,not_false_eq_true,reduceCtorEq,kt,l_kt_w] at n_kl
  have o_kl: ¬O (w.heap.size):=by first|exact hA.new (Nat.le_refl _)|exact hA.new (by omega)
  replace kt:=kK hV_V kt
  have hF:Fr ((oneX tb)) O O w V:=nF hV_V
  replace hA:AP V ap t.s O:=nA hV_V
  have z_V:=zS hV_V
  clear hV_V c_kt f_kt
  obtain ⟨c_kt,f_kt,l_kt_V⟩:=f3 kt
  have kl:=n_kl;clear n_kl
  obtain ⟨c_kl,f_kl,l_kl_V⟩:=f3 kl
  refine (tDrop_calls [x,y] w.heap.size 0 2 _ _ (by simp) _ ⟨hA,kt,o_kt⟩ kl (two_cell x y) o_kl (by omega) 2 rfl).mono ?_
  rintro e_W1 W1 ⟨rfl,O1,hT_W1,hf_W1⟩
  have q_kl:=hf_W1.keep kl o_kl (by unfold oneX;omega)
  replace o_kl:=hf_W1.not_own (lt_of kl) o_kl
  clear kl;have kl:=q_kl;clear q_kl
  obtain ⟨c_kl,f_kl,l_kl_W1⟩:=f3 kl
  clear kt c_kt f_kt o_kt;have kt:=hT_W1.blk;have o_kt:=hT_W1.no
  obtain ⟨c_kt,f_kt,l_kt_W1⟩:=f3 kt
  replace hF:=hF.trans hf_W1
  have z_W1:=hf_W1.size
  clear hA hf_W1;have hA:=hT_W1.hA;clear hT_W1
  go_wp2_with fail
  go_ret
  rw [e1.out]
  exact ⟨rfl,O1,⟨hA,kt,o_kt⟩,hF⟩
set_option maxRecDepth 100000 in
set_option maxHeartbeats 800000 in
theorem tTold_calls (h:Int) (w:World) (hT:TB w tb ap t O):
  Calls Tryz.prog 109 #[.pointer (some ⟨tb,0,none⟩), .int .i64 h] w fun e w'=>e= .returned (.tuple #[.int .i64 (Tb.told (h,t)).1, .int .i64 (Tb.told (h,t)).2.1])∧DidT tb ap t O w w':=by
 by_cases he:t.e=0
 ·
  have d1:(t.e !=0)=false:=by simp [he]
  have e1:Hid (Tb.told (h,t)=(h,0,t.s)):=by show _=_;unfold Tb.told;rw [if_pos he]
  clear he
  go_enter Tryz.func109,Tryz.ntmps109
  have hA:=hT.hA
  have kt:=hT.blk
  have o_kt:=hT.no
  obtain ⟨c_kt,f_kt,l_kt_w⟩:=f3 kt
  go_wp2_with fail
  go_ret2
  rw [e1.out]
  exact ⟨rfl,O,hT,Fr.refl _ _ _⟩
 ·
  have d1:(t.e !=0)=true:=by simp [he]
  have e1:Hid (Tb.told (h,t)=(0,t.e,t.s)):=by show _=_;unfold Tb.told;rw [if_neg he]
  clear he
  go_enter Tryz.func109,Tryz.ntmps109
  have hA:=hT.hA
  have kt:=hT.blk
  have o_kt:=hT.no
  obtain ⟨c_kt,f_kt,l_kt_w⟩:=f3 kt
  go_wp2_with fail
  refine wp_gen fun V hV_V=> ?_
  replace kt:=kK hV_V kt
  have hF:Fr ((oneX tb)) O O w V:=nF hV_V
  replace hA:AP V ap t.s O:=nA hV_V
  have z_V:=zS hV_V
  clear hV_V c_kt f_kt
  obtain ⟨c_kt,f_kt,l_kt_V⟩:=f3 kt
  refine wp_region_noPanic ?_
  refine wp_region_held_drew (S:=fun v=>(∀o,v.cell? ⟨tb,o,none⟩=V.cell? ⟨tb,o,none⟩)∧(V.heap.size≤v.heap.size)∧AP v ap t.s O) (by kernel_rfl) ⟨(fun _=>rfl),(Nat.le_refl _),hA.drew⟩ (fun hHeld=> ?_)
  generalize hV_Vd:V.drew=Vd at hHeld⊢
  have d_kt:=dK hV_Vd kt
  clear c_kt f_kt
  replace hA:=hA.drew;rw [hV_Vd] at hA
  replace hF:=hF.drew;rw [hV_Vd] at hF
  have z_Vd:=dZ hV_Vd
  have v_kt:=cells_of kt
  clear kt;have kt:=d_kt;clear d_kt
  obtain ⟨c_kt,f_kt,l_kt_Vd⟩:=f3 kt
  clear hV_Vd
  refine tz 0 rfl hHeld ?_
  try simp only [PT]
  refine tz 1 rfl hHeld ?_
  try simp only [PT]
  refine tz 2 rfl hHeld ?_
  try simp only [PT]
  refine tz 3 rfl hHeld ?_
  try simp only [PT]
  refine rd 4 rfl fun K hK=> ?_
  go_simp
  refine hK.out _ _ hHeld (fun hHeld=> ?_)
  clear hK K
  try simp only [PT]
  refine rd 5 rfl fun K hK=> ?_
  go_simp
  refine hK.out _ _ hHeld (fun hHeld=> ?_)
  clear hK K
  try simp only [PT]
  refine wpAnyH_done (by kernel_rfl) ?_ _
  refine NoPanic.normal ?_
  go_wp2_with fail
  go_ret2
  rw [e1.out]
  exact ⟨rfl,O,⟨hA,kt,o_kt⟩,hF⟩
set_option maxRecDepth 100000 in
set_option maxHeartbeats 800000 in
theorem tHigh_calls: ∀(k:Nat) (h r:Int) (w:World),bHigh k t.s h=some r→TB w tb ap t O→
  Calls Tryz.prog 172 #[.pointer (some ⟨tb,0,none⟩), .int .i64 h] w fun e w'=>e= .returned (.int .i64 r)∧Below w.heap.size w w'
 | 0,h,r,w,hr,hT=>by cases hr
 | k+1,h,r,w,hr,hT=>by
  have ih:=Lib.hid (tHigh_calls k)
  unfold bHigh at hr
  cases h1:bIs t.s h with
  | false=>
   rw [h1,if_neg (by decide)] at hr
   cases hr
   go_enter Tryz.func172,Tryz.ntmps172
   have hA:=hT.hA
   have kt:=hT.blk
   have o_kt:=hT.no
   obtain ⟨c_kt,f_kt,l_kt_w⟩:=f3 kt
   go_wp2_with fail
   refine calls_gen fun V hV_V=> ?_
   replace kt:=kK hV_V kt
   have hB:Below w.heap.size w V:=nB hV_V
   replace hA:AP V ap t.s O:=nA hV_V
   have z_V:=zS hV_V
   clear hV_V c_kt f_kt
   obtain ⟨c_kt,f_kt,l_kt_V⟩:=f3 kt
   refine (bRow_calls _ _ hA).mono ?_
   rintro e_W1 W1 ⟨rfl,hb_W1⟩
   replace hA:=hA.below hb_W1
   replace hB:=below_step hB hb_W1
   replace kt:=keep_blk hb_W1 kt
   have z_W1:=hb_W1.size
   clear hb_W1 c_kt f_kt
   obtain ⟨c_kt,f_kt,l_kt_W1⟩:=f3 kt
   unfold Nd.val
   go_wp2_with fail
   go_ret
   exact ⟨rfl,by (repeat' first|with_reducible assumption|with_reducible exact Below.refl _ _|with_reducible refine Below.alloc ?_ ?_ _|with_reducible refine Below.setCell ?_ ?_ _|with_reducible refine below_drewN ?_ _|with_reducible refine Below.drew ?_|exact Nat.le_refl _|((try dsimp only);omega)|(simp only [siz_alloc,siz_set];omega))⟩
  | true=>
   rw [h1,if_pos rfl] at hr
   by_cases h2:(t.s.get h).tag=1
   ·
    have d1:((t.s.get h).tag==1)=true:=by simpa using h2
    rw [if_pos h2] at hr
    cases hr
    clear h2
    go_enter Tryz.func172,Tryz.ntmps172
    have hA:=hT.hA
    have kt:=hT.blk
    have o_kt:=hT.no
    obtain ⟨c_kt,f_kt,l_kt_w⟩:=f3 kt
    go_wp2_with fail
    refine calls_gen fun V hV_V=> ?_
    replace kt:=kK hV_V kt
    have hB:Below w.heap.size w V:=nB hV_V
    replace hA:AP V ap t.s O:=nA hV_V
    have z_V:=zS hV_V
    clear hV_V c_kt f_kt
    obtain ⟨c_kt,f_kt,l_kt_V⟩:=f3 kt
    refine (bRow_calls _ _ hA).mono ?_
    rintro e_W1 W1 ⟨rfl,hb_W1⟩
    replace hA:=hA.below hb_W1
    replace hB:=below_step hB hb_W1
    replace kt:=keep_blk hb_W1 kt
    have z_W1:=hb_W1.size
    clear hb_W1 c_kt f_kt
    obtain ⟨c_kt,f_kt,l_kt_W1⟩:=f3 kt
    unfold Nd.val
    go_wp2_with fail
    go_ret
    exact ⟨rfl,by (repeat' first|with_reducible assumption|with_reducible exact Below.refl _ _|with_reducible refine Below.alloc ?_ ?_ _|with_reducible refine Below.setCell ?_ ?_ _|with_reducible refine below_drewN ?_ _|with_reducible refine Below.drew ?_|exact Nat.le_refl _|((try dsimp only);omega)|(simp only [siz_alloc,siz_set];omega))⟩
   ·
    have d1:((t.s.get h).tag==1)=false:=by simpa using h2
    rw [if_neg h2] at hr
    clear h2
    obtain ⟨p,hp,hr⟩:=Option.bind_eq_some_iff.1 hr
    obtain ⟨q,hq,hr⟩:=Option.bind_eq_some_iff.1 hr
    have hr:=Option.some.inj hr
    have Hp:=Lib.hid hp;have Hq:=Lib.hid hq;have Hr:=Lib.hid hr
    clear hp hq hr
    by_cases hpq:p<q
    all_goals
     go_enter Tryz.func172,Tryz.ntmps172
     have hA:=hT.hA
     have kt:=hT.blk
     have o_kt:=hT.no
     obtain ⟨c_kt,f_kt,l_kt_w⟩:=f3 kt
     go_wp2_with fail
     refine calls_gen fun V hV_V=> ?_
     replace kt:=kK hV_V kt
     have hB:Below w.heap.size w V:=nB hV_V
     replace hA:AP V ap t.s O:=nA hV_V
     have z_V:=zS hV_V
     clear hV_V c_kt f_kt
     obtain ⟨c_kt,f_kt,l_kt_V⟩:=f3 kt
     refine (bRow_calls _ _ hA).mono ?_
     rintro e_W1 W1 ⟨rfl,hb_W1⟩
     replace hA:=hA.below hb_W1
     replace hB:=below_step hB hb_W1
     replace kt:=keep_blk hb_W1 kt
     have z_W1:=hb_W1.size
     clear hb_W1 c_kt f_kt
     obtain ⟨c_kt,f_kt,l_kt_W1⟩:=f3 kt
     unfold Nd.val
     go_wp2_with fail
     refine wp_gen fun V1 hV_V1=> ?_
     have n_kn:=hbk hV_V1 (W1.heap.size)
     simp (maxDischargeDepth:=9) only [BK,not_false_eq_true,reduceCtorEq,kt,l_kt_w,l_kt_V,l_kt_W1] at n_kn
     have o_kn: ¬O (W1.heap.size):=by first|exact hA.new (Nat.le_refl _)|exact hA.new (by omega)
     replace kt:=kK hV_V1 kt
     replace hB:Below w.heap.size w V1:=nB hV_V1
     replace hA:AP V1 ap t.s O:=nA hV_V1
     have z_V1:=zS hV_V1
     clear hV_V1 c_kt f_kt
     obtain ⟨c_kt,f_kt,l_kt_V1⟩:=f3 kt
     have kn:=n_kn;clear n_kn
     obtain ⟨c_kn,f_kn,l_kn_V1⟩:=f3 kn
     refine wp_region_noPanic ?_
     refine wp_region_held_drew (S:=fun v=>(∀o,v.cell? ⟨tb,o,none⟩=V1.cell? ⟨tb,o,none⟩)∧(∀o,v.cell? ⟨W1.heap.size,o,none⟩=V1.cell? ⟨W1.heap.size,o,none⟩)∧(V1.heap.size≤v.heap.size)∧AP v ap t.s O) (by kernel_rfl) ⟨(fun _=>rfl),(fun _=>rfl),(Nat.le_refl _),hA.drew⟩ (fun hHeld=> ?_)
     generalize hV_V1d:V1.drew=V1d at hHeld⊢
     have d_kt:=dK hV_V1d kt
     have d_kn:=dK hV_V1d kn
     clear c_kt f_kt c_kn f_kn
     replace hA:=hA.drew;rw [hV_V1d] at hA
     replace hB:=hB.drew;rw [hV_V1d] at hB
     have z_V1d:=dZ hV_V1d
     have v_kt:=cells_of kt
     have v_kn:=cells_of kn
     clear kt;have kt:=d_kt;clear d_kt
     clear kn;have kn:=d_kn;clear d_kn
     obtain ⟨c_kt,f_kt,l_kt_V1d⟩:=f3 kt
     obtain ⟨c_kn,f_kn,l_kn_V1d⟩:=f3 kn
     clear hV_V1d
     refine tz 0 rfl hHeld ?_
     try simp only [PT]
     refine tz 1 rfl hHeld ?_
     try simp only [PT]
     refine tz 2 rfl hHeld ?_
     try simp only [PT]
     refine tz 3 rfl hHeld ?_
     try simp only [PT]
     refine tz 5 rfl hHeld ?_
     try simp only [PT]
     refine tz 6 rfl hHeld ?_
     try simp only [PT]
     refine tz 7 rfl hHeld ?_
     try simp only [PT]
     refine tz 8 rfl hHeld ?_
     try simp only [PT]
     refine rd 4 rfl fun K hK=> ?_
     go_simp
     try simp only [IntWalk.i64_left]
     refine (ih.out _ _ _ Hp.out ⟨hA,kt,o_kt⟩).mono ?_
     rintro e_W2 W2 ⟨rfl,hb_W2⟩
     replace hA:=hA.below hb_W2
     replace hB:=below_step hB hb_W2
     replace kt:=keep_blk hb_W2 kt
     replace kn:=keep_blk hb_W2 kn
     have z_W2:=hb_W2.size
     clear hb_W2 c_kt f_kt c_kn f_kn
     obtain ⟨c_kt,f_kt,l_kt_W2⟩:=f3 kt
     obtain ⟨c_kn,f_kn,l_kn_W2⟩:=f3 kn
     refine hK.out _ _ ⟨(fun o=>(c_kt o).trans (v_kt o).symm),(fun o=>(c_kn o).trans (v_kn o).symm),(by omega),hA⟩ (fun hHeld=> ?_)
     clear hK K
     try simp only [PT]
     refine rd 9 rfl fun K hK=> ?_
     go_simp
     try simp only [IntWalk.i64_left]
     refine (ih.out _ _ _ Hq.out ⟨hA,kt,o_kt⟩).mono ?_
     rintro e_W3 W3 ⟨rfl,hb_W3⟩
     replace hA:=hA.below hb_W3
     replace hB:=below_step hB hb_W3
     replace kt:=keep_blk hb_W3 kt
     replace kn:=keep_blk hb_W3 kn
     have z_W3:=hb_W3.size
     clear hb_W3 c_kt f_kt c_kn f_kn
     obtain ⟨c_kt,f_kt,l_kt_W3⟩:=f3 kt
     obtain ⟨c_kn,f_kn,l_kn_W3⟩:=f3 kn
     refine hK.out _ _ ⟨(fun o=>(c_kt o).trans (v_kt o).symm),(fun o=>(c_kn o).trans (v_kn o).symm),(by omega),hA⟩ (fun hHeld=> ?_)
     clear hK K
     try simp only [PT]
     refine tz 10 rfl hHeld ?_
     try simp only [PT]
     refine tz 11 rfl hHeld ?_
     try simp only [PT]
     refine rd 12 rfl fun K hK=> ?_
     go_simp
     refine hK.out _ _ hHeld (fun hHeld=> ?_)
     clear hK K
     try simp only [PT]
     refine wpAnyH_done (by kernel_rfl) ?_ _
     refine NoPanic.normal ?_
     go_wp2_with fail
     go_ret
     refine ⟨?_,by (repeat' first|with_reducible assumption|with_reducible exact Below.refl _ _|with_reducible refine Below.alloc ?_ ?_ _|with_reducible refine Below.setCell ?_ ?_ _|with_reducible refine below_drewN ?_ _|with_reducible refine Below.drew ?_|exact Nat.le_refl _|((try dsimp only);omega)|(simp only [siz_alloc,siz_set];omega))⟩
     rw [←Hr.out]
     unfold imax
     first|rw [if_pos hpq]|rw [if_neg (Int.not_lt.2 hpq)]
     simp only [IntWalk.i64_left]
     rfl
set_option maxRecDepth 100000 in
set_option maxHeartbeats 800000 in
theorem tOpen_calls (h:Int) (w:World) (hT:TB w tb ap t O):
  Calls Tryz.prog 173 #[.pointer (some ⟨tb,0,none⟩), .int .i64 h] w fun e w'=>e= .returned (.tuple #[.int .i64 (t.s.get h).k0, .int .i64 (t.s.get h).k1])∧DidT tb ap (t.opened h) O w w':=by
 go_enter Tryz.func173,Tryz.ntmps173
 have hA:=hT.hA
 have kt:=hT.blk
 have o_kt:=hT.no
 obtain ⟨c_kt,f_kt,l_kt_w⟩:=f3 kt
 go_wp2_with fail
 refine calls_gen fun V hV_V=> ?_
 replace kt:=kK hV_V kt
 have hF:Fr ((oneX tb)) O O w V:=nF hV_V
 replace hA:AP V ap t.s O:=nA hV_V
 have z_V:=zS hV_V
 clear hV_V c_kt f_kt
 obtain ⟨c_kt,f_kt,l_kt_V⟩:=f3 kt
 refine (bRow_calls _ _ hA).mono ?_
 rintro e_W1 W1 ⟨rfl,hb_W1⟩
 replace hA:=hA.below hb_W1
 replace hF:=hF.below hb_W1
 replace kt:=keep_blk hb_W1 kt
 have z_W1:=hb_W1.size
 clear hb_W1 c_kt f_kt
 obtain ⟨c_kt,f_kt,l_kt_W1⟩:=f3 kt
 unfold Nd.val
 go_wp2_with fail
 refine wp_gen fun V1 hV_V1=> ?_
 have n_kn:=hbk hV_V1 (W1.heap.size)
 simp (maxDischargeDepth:=9) only [BK,not_false_eq_true,reduceCtorEq,kt,l_kt_w,l_kt_V,l_kt_W1] at n_kn
 have o_kn: ¬O (W1.heap.size):=by first|exact hA.new (Nat.le_refl _)|exact hA.new (by omega)
 replace kt:=kK hV_V1 kt
 replace hF:Fr ((oneX tb)) O O w V1:=nF hV_V1
 replace hA:AP V1 ap t.s O:=nA hV_V1
 have z_V1:=zS hV_V1
 clear hV_V1 c_kt f_kt
 obtain ⟨c_kt,f_kt,l_kt_V1⟩:=f3 kt
 have kn:=n_kn;clear n_kn
 obtain ⟨c_kn,f_kn,l_kn_V1⟩:=f3 kn
 refine wp_region_noPanic ?_
 refine wp_region_held_drew (S:=fun v=>(∀o,v.cell? ⟨tb,o,none⟩=V1.cell? ⟨tb,o,none⟩)∧(∀o,v.cell? ⟨W1.heap.size,o,none⟩=V1.cell? ⟨W1.heap.size,o,none⟩)∧(V1.heap.size≤v.heap.size)∧True) (by kernel_rfl) ⟨(fun _=>rfl),(fun _=>rfl),(Nat.le_refl _),trivial⟩ (fun hHeld=> ?_)
 generalize hV_V1d:V1.drew=V1d at hHeld⊢
 have d_kt:=dK hV_V1d kt
 have d_kn:=dK hV_V1d kn
 clear c_kt f_kt c_kn f_kn
 replace hA:=hA.drew;rw [hV_V1d] at hA
 replace hF:=hF.drew;rw [hV_V1d] at hF
 have z_V1d:=dZ hV_V1d
 have v_kt:=cells_of kt
 have v_kn:=cells_of kn
 clear kt;have kt:=d_kt;clear d_kt
 clear kn;have kn:=d_kn;clear d_kn
 obtain ⟨c_kt,f_kt,l_kt_V1d⟩:=f3 kt
 obtain ⟨c_kn,f_kn,l_kn_V1d⟩:=f3 kn
 clear hV_V1d
 refine tz 0 rfl hHeld ?_
 try simp only [PT]
 refine tz 1 rfl hHeld ?_
 try simp only [PT]
 refine tz 2 rfl hHeld ?_
 try simp only [PT]
 refine tz 3 rfl hHeld ?_
 try simp only [PT]
 refine tz 5 rfl hHeld ?_
 try simp only [PT]
 refine tz 6 rfl hHeld ?_
 try simp only [PT]
 refine tz 7 rfl hHeld ?_
 try simp only [PT]
 refine tz 8 rfl hHeld ?_
 try simp only [PT]
 refine rd 4 rfl fun K hK=> ?_
 go_simp
 try simp only [IntWalk.i64_left]
 refine (tKeep_calls (t:=t) (t.s.get h).k0 _ ⟨hA,kt,o_kt⟩).mono ?_
 rintro e_W2 W2 ⟨rfl,O1,hT_W2,hf_W2⟩
 have q_kn:=hf_W2.keep kn o_kn (by unfold oneX;omega)
 replace o_kn:=hf_W2.not_own (lt_of kn) o_kn
 clear kn;have kn:=q_kn;clear q_kn
 obtain ⟨c_kn,f_kn,l_kn_W2⟩:=f3 kn
 clear kt c_kt f_kt o_kt;have kt:=hT_W2.blk;have o_kt:=hT_W2.no
 obtain ⟨c_kt,f_kt,l_kt_W2⟩:=f3 kt
 replace hF:=hF.trans hf_W2
 have z_W2:=hf_W2.size
 clear hA hf_W2;have hA:=hT_W2.hA;clear hT_W2
 refine hK.out _ _ ⟨(fun o=>(c_kt o).trans (v_kt o).symm),(fun o=>(c_kn o).trans (v_kn o).symm),(by omega),trivial⟩ (fun hHeld=> ?_)
 clear hK K
 try simp only [PT]
 refine rd 9 rfl fun K hK=> ?_
 go_simp
 try simp only [IntWalk.i64_left]
 refine (tKeep_calls (t:=t.keep (t.s.get h).k0) (t.s.get h).k1 _ ⟨hA,kt,o_kt⟩).mono ?_
 rintro e_W3 W3 ⟨rfl,O2,hT_W3,hf_W3⟩
 have q_kn:=hf_W3.keep kn o_kn (by unfold oneX;omega)
 replace o_kn:=hf_W3.not_own (lt_of kn) o_kn
 clear kn;have kn:=q_kn;clear q_kn
 obtain ⟨c_kn,f_kn,l_kn_W3⟩:=f3 kn
 clear kt c_kt f_kt o_kt;have kt:=hT_W3.blk;have o_kt:=hT_W3.no
 obtain ⟨c_kt,f_kt,l_kt_W3⟩:=f3 kt
 replace hF:=hF.trans hf_W3
 have z_W3:=hf_W3.size
 clear hA hf_W3;have hA:=hT_W3.hA;clear hT_W3
 refine hK.out _ _ ⟨(fun o=>(c_kt o).trans (v_kt o).symm),(fun o=>(c_kn o).trans (v_kn o).symm),(by omega),trivial⟩ (fun hHeld=> ?_)
 clear hK K
 try simp only [PT]
 refine rd 10 rfl fun K hK=> ?_
 go_simp
 refine hK.out _ _ hHeld (fun hHeld=> ?_)
 clear hK K
 try simp only [PT]
 refine rd 11 rfl fun K hK=> ?_
 go_simp
 refine hK.out _ _ hHeld (fun hHeld=> ?_)
 clear hK K
 try simp only [PT]
 refine wpAnyH_done (by kernel_rfl) ?_ _
 refine NoPanic.normal ?_
 go_wp2_with fail
 refine calls_gen fun V4 hV_V4=> ?_
 have n_kl:=hbk hV_V4 (W3.heap.size)
 simp (maxDischargeDepth:=9) only [BK,not_false_eq_true,reduceCtorEq,kt,kn,l_kt_w,l_kt_V,l_kt_W1,l_kt_V1,l_kn_V1,l_kt_V1d,l_kn_V1d,l_kn_W2,l_kt_W2,l_kn_W3,l_kt_W3] at n_kl
 have o_kl: ¬O2 (W3.heap.size):=by first|exact hA.new (Nat.le_refl _)|exact hA.new (by omega)
 replace kt:=kK hV_V4 kt
 replace kn:=kK hV_V4 kn
 replace hF:Fr ((oneX tb)) O O2 w V4:=nF hV_V4
 replace hA:AP V4 ap ((t.keep (t.s.get h).k0).keep (t.s.get h).k1).s O2:=nA hV_V4
 have z_V4:=zS hV_V4
 clear hV_V4 c_kt f_kt c_kn f_kn
 obtain ⟨c_kt,f_kt,l_kt_V4⟩:=f3 kt
 obtain ⟨c_kn,f_kn,l_kn_V4⟩:=f3 kn
 have kl:=n_kl;clear n_kl
 obtain ⟨c_kl,f_kl,l_kl_V4⟩:=f3 kl
 refine (tDrop_calls (t:=(t.keep (t.s.get h).k0).keep (t.s.get h).k1) [h] W3.heap.size 0 1 _ _ (by simp) _ ⟨hA,kt,o_kt⟩ kl (one_cell h) o_kl (by omega) 1 rfl).mono ?_
 rintro e_W5 W5 ⟨rfl,O3,hT_W5,hf_W5⟩
 have q_kn:=hf_W5.keep kn o_kn (by unfold oneX;omega)
 have q_kl:=hf_W5.keep kl o_kl (by unfold oneX;omega)
 replace o_kn:=hf_W5.not_own (lt_of kn) o_kn
 clear kn;have kn:=q_kn;clear q_kn
 obtain ⟨c_kn,f_kn,l_kn_W5⟩:=f3 kn
 replace o_kl:=hf_W5.not_own (lt_of kl) o_kl
 clear kl;have kl:=q_kl;clear q_kl
 obtain ⟨c_kl,f_kl,l_kl_W5⟩:=f3 kl
 clear kt c_kt f_kt o_kt;have kt:=hT_W5.blk;have o_kt:=hT_W5.no
 obtain ⟨c_kt,f_kt,l_kt_W5⟩:=f3 kt
 replace hF:=hF.trans hf_W5
 have z_W5:=hf_W5.size
 clear hA hf_W5;have hA:=hT_W5.hA;clear hT_W5
 go_wp2_with fail
 go_ret2
 exact ⟨rfl,O3,⟨hA,kt,o_kt⟩,hF⟩
end Go.Proofs.YtdjpjmkpndmhaaaGreat
namespace Go.Proofs.YtdjpjmkpndmhaaaGreat
open Go.RowKit
attribute [local go_sem ↓] Go.wp_at_zero Go.wp_at_succ
attribute [local go_sem] lt_s2 lt_s3 lt_s4
variable {ap : Value} {O : Nat → Prop} {tb : Nat} {t : Tb}
set_option maxRecDepth 100000 in
set_option maxHeartbeats 4000000 in
theorem tFork_calls (x y : Int) (r : Int × Tb) (hr : t.fork x y = some r) (w : World) (hT : TB w tb ap t O) :
    Calls Tryz.prog 145 #[.pointer (some ⟨tb,0,none⟩), .int .i64 x, .int .i64 y] w fun e w'=>e= .returned (.int .i64 r.1)∧DidT tb ap r.2 O w w':=by
  unfold Tb.fork at hr
  by_cases he:t.e=0
  · have d1:(t.e !=0)=false:=by simp [he]
    rw [if_pos he] at hr
    clear he
    obtain ⟨p,h_b,h_r⟩:=Option.bind_eq_some_iff.1 hr
    have Hp:=Lib.hid h_b;clear h_b hr;have hr:=h_r;clear h_r
    obtain ⟨q,h_b,h_r⟩:=Option.bind_eq_some_iff.1 hr
    have Hq:=Lib.hid h_b;clear h_b hr;have hr:=h_r;clear h_r
    by_cases c1:wrap64 (q+1)<p
    · have d2:decide (wrap64 (q+1)<p)=true:=by simpa using c1
      rw [if_pos c1] at hr
      clear c1
      dsimp only at hr
      obtain ⟨a,h_b,h_r⟩:=Option.bind_eq_some_iff.1 hr
      have Ha:=Lib.hid h_b;clear h_b hr;have hr:=h_r;clear h_r
      obtain ⟨b,h_b,h_r⟩:=Option.bind_eq_some_iff.1 hr
      have Hb:=Lib.hid h_b;clear h_b hr;have hr:=h_r;clear h_r
      by_cases c2:b≤a
      · have d3:decide (b≤a)=true:=by simpa using c2
        rw [if_pos c2] at hr
        clear c2
        obtain rfl:=Option.some.inj hr
        clear hr
        go_enter Tryz.func145,Tryz.ntmps145
        have hA:=hT.hA
        have kt:=hT.blk
        have o_kt:=hT.no
        obtain ⟨c_kt,f_kt,l_kt_w⟩:=f3 kt
        go_wp2_with fail
        refine calls_gen fun VW1 hV_VW1=> ?_
        replace kt:=kK hV_VW1 kt
        have hF:Fr ((oneX tb)) O O w VW1:=nF hV_VW1
        replace hA:AP VW1 ap t.s O:=nA hV_VW1
        have z_VW1:=zS hV_VW1
        clear hV_VW1 c_kt f_kt
        obtain ⟨c_kt,f_kt,l_kt_VW1⟩:=f3 kt
        refine (tHigh_calls (t:=t) _ _ _ _ Hp.out ⟨hA,kt,o_kt⟩).mono ?_
        rintro e_W1 W1 ⟨rfl,hb_W1⟩
        replace hA:=hA.below hb_W1
        replace hF:=hF.below hb_W1
        replace kt:=keep_blk hb_W1 kt
        have z_W1:=hb_W1.size
        clear hb_W1 c_kt f_kt
        obtain ⟨c_kt,f_kt,l_kt_W1⟩:=f3 kt
        go_wp2_with fail
        refine calls_gen fun VW2 hV_VW2=> ?_
        replace kt:=kK hV_VW2 kt
        replace hF:Fr ((oneX tb)) O O w VW2:=nF hV_VW2
        replace hA:AP VW2 ap t.s O:=nA hV_VW2
        have z_VW2:=zS hV_VW2
        clear hV_VW2 c_kt f_kt
        obtain ⟨c_kt,f_kt,l_kt_VW2⟩:=f3 kt
        refine (tHigh_calls (t:=t) _ _ _ _ Hq.out ⟨hA,kt,o_kt⟩).mono ?_
        rintro e_W2 W2 ⟨rfl,hb_W2⟩
        replace hA:=hA.below hb_W2
        replace hF:=hF.below hb_W2
        replace kt:=keep_blk hb_W2 kt
        have z_W2:=hb_W2.size
        clear hb_W2 c_kt f_kt
        obtain ⟨c_kt,f_kt,l_kt_W2⟩:=f3 kt
        go_wp2_with fail
        refine calls_gen fun VW3 hV_VW3=> ?_
        replace kt:=kK hV_VW3 kt
        replace hF:Fr ((oneX tb)) O O w VW3:=nF hV_VW3
        replace hA:AP VW3 ap t.s O:=nA hV_VW3
        have z_VW3:=zS hV_VW3
        clear hV_VW3 c_kt f_kt
        obtain ⟨c_kt,f_kt,l_kt_VW3⟩:=f3 kt
        refine (tOpen_calls (t:=t) x _ ⟨hA,kt,o_kt⟩).mono ?_
        rintro e_W3 W3 ⟨rfl,O1,hT_W3,hf_W3⟩
        clear kt c_kt f_kt o_kt;have kt:=hT_W3.blk;have o_kt:=hT_W3.no
        obtain ⟨c_kt,f_kt,l_kt_W3⟩:=f3 kt
        replace hF:=hF.trans hf_W3
        have z_W3:=hf_W3.size
        clear hA hf_W3;have hA:=hT_W3.hA;clear hT_W3
        go_wp2_with fail
        refine calls_gen fun VW4 hV_VW4=> ?_
        replace kt:=kK hV_VW4 kt
        replace hF:Fr ((oneX tb)) O O1 w VW4:=nF hV_VW4
        replace hA:AP VW4 ap ((t).opened x).s O1:=nA hV_VW4
        have z_VW4:=zS hV_VW4
        clear hV_VW4 c_kt f_kt
        obtain ⟨c_kt,f_kt,l_kt_VW4⟩:=f3 kt
        refine (tHigh_calls (t:=t.opened x) _ _ _ _ Ha.out ⟨hA,kt,o_kt⟩).mono ?_
        rintro e_W4 W4 ⟨rfl,hb_W4⟩
        replace hA:=hA.below hb_W4
        replace hF:=hF.below hb_W4
        replace kt:=keep_blk hb_W4 kt
        have z_W4:=hb_W4.size
        clear hb_W4 c_kt f_kt
        obtain ⟨c_kt,f_kt,l_kt_W4⟩:=f3 kt
        go_wp2_with fail
        refine calls_gen fun VW5 hV_VW5=> ?_
        replace kt:=kK hV_VW5 kt
        replace hF:Fr ((oneX tb)) O O1 w VW5:=nF hV_VW5
        replace hA:AP VW5 ap ((t).opened x).s O1:=nA hV_VW5
        have z_VW5:=zS hV_VW5
        clear hV_VW5 c_kt f_kt
        obtain ⟨c_kt,f_kt,l_kt_VW5⟩:=f3 kt
        refine (tHigh_calls (t:=t.opened x) _ _ _ _ Hb.out ⟨hA,kt,o_kt⟩).mono ?_
        rintro e_W5 W5 ⟨rfl,hb_W5⟩
        replace hA:=hA.below hb_W5
        replace hF:=hF.below hb_W5
        replace kt:=keep_blk hb_W5 kt
        have z_W5:=hb_W5.size
        clear hb_W5 c_kt f_kt
        obtain ⟨c_kt,f_kt,l_kt_W5⟩:=f3 kt
        go_wp2_with fail
        refine calls_gen fun VW6 hV_VW6=> ?_
        replace kt:=kK hV_VW6 kt
        replace hF:Fr ((oneX tb)) O O1 w VW6:=nF hV_VW6
        replace hA:AP VW6 ap ((t).opened x).s O1:=nA hV_VW6
        have z_VW6:=zS hV_VW6
        clear hV_VW6 c_kt f_kt
        obtain ⟨c_kt,f_kt,l_kt_VW6⟩:=f3 kt
        refine (tPair_calls (t:=t.opened x) _ _ _ ⟨hA,kt,o_kt⟩).mono ?_
        rintro e_W6 W6 ⟨rfl,O2,hT_W6,hf_W6⟩
        clear kt c_kt f_kt o_kt;have kt:=hT_W6.blk;have o_kt:=hT_W6.no
        obtain ⟨c_kt,f_kt,l_kt_W6⟩:=f3 kt
        replace hF:=hF.trans hf_W6
        have z_W6:=hf_W6.size
        clear hA hf_W6;have hA:=hT_W6.hA;clear hT_W6
        go_wp2_with fail
        refine calls_gen fun VW7 hV_VW7=> ?_
        replace kt:=kK hV_VW7 kt
        replace hF:Fr ((oneX tb)) O O2 w VW7:=nF hV_VW7
        replace hA:AP VW7 ap (((t.opened x).pair (t.s.get x).k1 y).2).s O2:=nA hV_VW7
        have z_VW7:=zS hV_VW7
        clear hV_VW7 c_kt f_kt
        obtain ⟨c_kt,f_kt,l_kt_VW7⟩:=f3 kt
        refine (tPair_calls (t:=((t.opened x).pair (t.s.get x).k1 y).2) _ _ _ ⟨hA,kt,o_kt⟩).mono ?_
        rintro e_W7 W7 ⟨rfl,O3,hT_W7,hf_W7⟩
        clear kt c_kt f_kt o_kt;have kt:=hT_W7.blk;have o_kt:=hT_W7.no
        obtain ⟨c_kt,f_kt,l_kt_W7⟩:=f3 kt
        replace hF:=hF.trans hf_W7
        have z_W7:=hf_W7.size
        clear hA hf_W7;have hA:=hT_W7.hA;clear hT_W7
        go_wp2_with fail
        go_ret
        exact ⟨rfl,O3,⟨hA,kt,o_kt⟩,hF⟩
      · have d3:decide (b≤a)=false:=by simpa using c2
        rw [if_neg c2] at hr
        clear c2
        obtain rfl:=Option.some.inj hr
        clear hr
        go_enter Tryz.func145,Tryz.ntmps145
        have hA:=hT.hA
        have kt:=hT.blk
        have o_kt:=hT.no
        obtain ⟨c_kt,f_kt,l_kt_w⟩:=f3 kt
        go_wp2_with fail
        refine calls_gen fun VW1 hV_VW1=> ?_
        replace kt:=kK hV_VW1 kt
        have hF:Fr ((oneX tb)) O O w VW1:=nF hV_VW1
        replace hA:AP VW1 ap t.s O:=nA hV_VW1
        have z_VW1:=zS hV_VW1
        clear hV_VW1 c_kt f_kt
        obtain ⟨c_kt,f_kt,l_kt_VW1⟩:=f3 kt
        refine (tHigh_calls (t:=t) _ _ _ _ Hp.out ⟨hA,kt,o_kt⟩).mono ?_
        rintro e_W1 W1 ⟨rfl,hb_W1⟩
        replace hA:=hA.below hb_W1
        replace hF:=hF.below hb_W1
        replace kt:=keep_blk hb_W1 kt
        have z_W1:=hb_W1.size
        clear hb_W1 c_kt f_kt
        obtain ⟨c_kt,f_kt,l_kt_W1⟩:=f3 kt
        go_wp2_with fail
        refine calls_gen fun VW2 hV_VW2=> ?_
        replace kt:=kK hV_VW2 kt
        replace hF:Fr ((oneX tb)) O O w VW2:=nF hV_VW2
        replace hA:AP VW2 ap t.s O:=nA hV_VW2
        have z_VW2:=zS hV_VW2
        clear hV_VW2 c_kt f_kt
        obtain ⟨c_kt,f_kt,l_kt_VW2⟩:=f3 kt
        refine (tHigh_calls (t:=t) _ _ _ _ Hq.out ⟨hA,kt,o_kt⟩).mono ?_
        rintro e_W2 W2 ⟨rfl,hb_W2⟩
        replace hA:=hA.below hb_W2
        replace hF:=hF.below hb_W2
        replace kt:=keep_blk hb_W2 kt
        have z_W2:=hb_W2.size
        clear hb_W2 c_kt f_kt
        obtain ⟨c_kt,f_kt,l_kt_W2⟩:=f3 kt
        go_wp2_with fail
        refine calls_gen fun VW3 hV_VW3=> ?_
        replace kt:=kK hV_VW3 kt
        replace hF:Fr ((oneX tb)) O O w VW3:=nF hV_VW3
        replace hA:AP VW3 ap t.s O:=nA hV_VW3
        have z_VW3:=zS hV_VW3
        clear hV_VW3 c_kt f_kt
        obtain ⟨c_kt,f_kt,l_kt_VW3⟩:=f3 kt
        refine (tOpen_calls (t:=t) x _ ⟨hA,kt,o_kt⟩).mono ?_
        rintro e_W3 W3 ⟨rfl,O1,hT_W3,hf_W3⟩
        clear kt c_kt f_kt o_kt;have kt:=hT_W3.blk;have o_kt:=hT_W3.no
        obtain ⟨c_kt,f_kt,l_kt_W3⟩:=f3 kt
        replace hF:=hF.trans hf_W3
        have z_W3:=hf_W3.size
        clear hA hf_W3;have hA:=hT_W3.hA;clear hT_W3
        go_wp2_with fail
        refine calls_gen fun VW4 hV_VW4=> ?_
        replace kt:=kK hV_VW4 kt
        replace hF:Fr ((oneX tb)) O O1 w VW4:=nF hV_VW4
        replace hA:AP VW4 ap ((t).opened x).s O1:=nA hV_VW4
        have z_VW4:=zS hV_VW4
        clear hV_VW4 c_kt f_kt
        obtain ⟨c_kt,f_kt,l_kt_VW4⟩:=f3 kt
        refine (tHigh_calls (t:=t.opened x) _ _ _ _ Ha.out ⟨hA,kt,o_kt⟩).mono ?_
        rintro e_W4 W4 ⟨rfl,hb_W4⟩
        replace hA:=hA.below hb_W4
        replace hF:=hF.below hb_W4
        replace kt:=keep_blk hb_W4 kt
        have z_W4:=hb_W4.size
        clear hb_W4 c_kt f_kt
        obtain ⟨c_kt,f_kt,l_kt_W4⟩:=f3 kt
        go_wp2_with fail
        refine calls_gen fun VW5 hV_VW5=> ?_
        replace kt:=kK hV_VW5 kt
        replace hF:Fr ((oneX tb)) O O1 w VW5:=nF hV_VW5
        replace hA:AP VW5 ap ((t).opened x).s O1:=nA hV_VW5
        have z_VW5:=zS hV_VW5
        clear hV_VW5 c_kt f_kt
        obtain ⟨c_kt,f_kt,l_kt_VW5⟩:=f3 kt
        refine (tHigh_calls (t:=t.opened x) _ _ _ _ Hb.out ⟨hA,kt,o_kt⟩).mono ?_
        rintro e_W5 W5 ⟨rfl,hb_W5⟩
        replace hA:=hA.below hb_W5
        replace hF:=hF.below hb_W5
        replace kt:=keep_blk hb_W5 kt
        have z_W5:=hb_W5.size
        clear hb_W5 c_kt f_kt
        obtain ⟨c_kt,f_kt,l_kt_W5⟩:=f3 kt
        go_wp2_with fail
        refine calls_gen fun VW6 hV_VW6=> ?_
        replace kt:=kK hV_VW6 kt
        replace hF:Fr ((oneX tb)) O O1 w VW6:=nF hV_VW6
        replace hA:AP VW6 ap ((t).opened x).s O1:=nA hV_VW6
        have z_VW6:=zS hV_VW6
        clear hV_VW6 c_kt f_kt
        obtain ⟨c_kt,f_kt,l_kt_VW6⟩:=f3 kt
        refine (tOpen_calls (t:=t.opened x) (t.s.get x).k1 _ ⟨hA,kt,o_kt⟩).mono ?_
        rintro e_W6 W6 ⟨rfl,O2,hT_W6,hf_W6⟩
        clear kt c_kt f_kt o_kt;have kt:=hT_W6.blk;have o_kt:=hT_W6.no
        obtain ⟨c_kt,f_kt,l_kt_W6⟩:=f3 kt
        replace hF:=hF.trans hf_W6
        have z_W6:=hf_W6.size
        clear hA hf_W6;have hA:=hT_W6.hA;clear hT_W6
        go_wp2_with fail
        refine calls_gen fun VW7 hV_VW7=> ?_
        replace kt:=kK hV_VW7 kt
        replace hF:Fr ((oneX tb)) O O2 w VW7:=nF hV_VW7
        replace hA:AP VW7 ap ((t.opened x).opened (t.s.get x).k1).s O2:=nA hV_VW7
        have z_VW7:=zS hV_VW7
        clear hV_VW7 c_kt f_kt
        obtain ⟨c_kt,f_kt,l_kt_VW7⟩:=f3 kt
        refine (tPair_calls (t:=(t.opened x).opened (t.s.get x).k1) _ _ _ ⟨hA,kt,o_kt⟩).mono ?_
        rintro e_W7 W7 ⟨rfl,O3,hT_W7,hf_W7⟩
        clear kt c_kt f_kt o_kt;have kt:=hT_W7.blk;have o_kt:=hT_W7.no
        obtain ⟨c_kt,f_kt,l_kt_W7⟩:=f3 kt
        replace hF:=hF.trans hf_W7
        have z_W7:=hf_W7.size
        clear hA hf_W7;have hA:=hT_W7.hA;clear hT_W7
        go_wp2_with fail
        refine calls_gen fun VW8 hV_VW8=> ?_
        replace kt:=kK hV_VW8 kt
        replace hF:Fr ((oneX tb)) O O3 w VW8:=nF hV_VW8
        replace hA:AP VW8 ap ((((t.opened x).opened (t.s.get x).k1).pair (t.s.get x).k0 ((t.opened x).s.get (t.s.get x).k1).k0).2).s O3:=nA hV_VW8
        have z_VW8:=zS hV_VW8
        clear hV_VW8 c_kt f_kt
        obtain ⟨c_kt,f_kt,l_kt_VW8⟩:=f3 kt
        refine (tPair_calls (t:=(((t.opened x).opened (t.s.get x).k1).pair (t.s.get x).k0 ((t.opened x).s.get (t.s.get x).k1).k0).2) _ _ _ ⟨hA,kt,o_kt⟩).mono ?_
        rintro e_W8 W8 ⟨rfl,O4,hT_W8,hf_W8⟩
        clear kt c_kt f_kt o_kt;have kt:=hT_W8.blk;have o_kt:=hT_W8.no
        obtain ⟨c_kt,f_kt,l_kt_W8⟩:=f3 kt
        replace hF:=hF.trans hf_W8
        have z_W8:=hf_W8.size
        clear hA hf_W8;have hA:=hT_W8.hA;clear hT_W8
        go_wp2_with fail
        refine calls_gen fun VW9 hV_VW9=> ?_
        replace kt:=kK hV_VW9 kt
        replace hF:Fr ((oneX tb)) O O4 w VW9:=nF hV_VW9
        replace hA:AP VW9 ap ((((((t.opened x).opened (t.s.get x).k1).pair (t.s.get x).k0 ((t.opened x).s.get (t.s.get x).k1).k0).2).pair ((t.opened x).s.get (t.s.get x).k1).k1 y).2).s O4:=nA hV_VW9
        have z_VW9:=zS hV_VW9
        clear hV_VW9 c_kt f_kt
        obtain ⟨c_kt,f_kt,l_kt_VW9⟩:=f3 kt
        refine (tPair_calls (t:=((((t.opened x).opened (t.s.get x).k1).pair (t.s.get x).k0 ((t.opened x).s.get (t.s.get x).k1).k0).2.pair ((t.opened x).s.get (t.s.get x).k1).k1 y).2) _ _ _ ⟨hA,kt,o_kt⟩).mono ?_
        rintro e_W9 W9 ⟨rfl,O5,hT_W9,hf_W9⟩
        clear kt c_kt f_kt o_kt;have kt:=hT_W9.blk;have o_kt:=hT_W9.no
        obtain ⟨c_kt,f_kt,l_kt_W9⟩:=f3 kt
        replace hF:=hF.trans hf_W9
        have z_W9:=hf_W9.size
        clear hA hf_W9;have hA:=hT_W9.hA;clear hT_W9
        go_wp2_with fail
        go_ret
        exact ⟨rfl,O5,⟨hA,kt,o_kt⟩,hF⟩
    · have d2:decide (wrap64 (q+1)<p)=false:=by simpa using c1
      rw [if_neg c1] at hr
      clear c1
      by_cases c3:wrap64 (p+1)<q
      · have d4:decide (wrap64 (p+1)<q)=true:=by simpa using c3
        rw [if_pos c3] at hr
        clear c3
        dsimp only at hr
        obtain ⟨a,h_b,h_r⟩:=Option.bind_eq_some_iff.1 hr
        have Ha:=Lib.hid h_b;clear h_b hr;have hr:=h_r;clear h_r
        obtain ⟨b,h_b,h_r⟩:=Option.bind_eq_some_iff.1 hr
        have Hb:=Lib.hid h_b;clear h_b hr;have hr:=h_r;clear h_r
        by_cases c2:b≤a
        · have d3:decide (b≤a)=true:=by simpa using c2
          rw [if_pos c2] at hr
          clear c2
          obtain rfl:=Option.some.inj hr
          clear hr
          go_enter Tryz.func145,Tryz.ntmps145
          have hA:=hT.hA
          have kt:=hT.blk
          have o_kt:=hT.no
          obtain ⟨c_kt,f_kt,l_kt_w⟩:=f3 kt
          go_wp2_with fail
          refine calls_gen fun VW1 hV_VW1=> ?_
          replace kt:=kK hV_VW1 kt
          have hF:Fr ((oneX tb)) O O w VW1:=nF hV_VW1
          replace hA:AP VW1 ap t.s O:=nA hV_VW1
          have z_VW1:=zS hV_VW1
          clear hV_VW1 c_kt f_kt
          obtain ⟨c_kt,f_kt,l_kt_VW1⟩:=f3 kt
          refine (tHigh_calls (t:=t) _ _ _ _ Hp.out ⟨hA,kt,o_kt⟩).mono ?_
          rintro e_W1 W1 ⟨rfl,hb_W1⟩
          replace hA:=hA.below hb_W1
          replace hF:=hF.below hb_W1
          replace kt:=keep_blk hb_W1 kt
          have z_W1:=hb_W1.size
          clear hb_W1 c_kt f_kt
          obtain ⟨c_kt,f_kt,l_kt_W1⟩:=f3 kt
          go_wp2_with fail
          refine calls_gen fun VW2 hV_VW2=> ?_
          replace kt:=kK hV_VW2 kt
          replace hF:Fr ((oneX tb)) O O w VW2:=nF hV_VW2
          replace hA:AP VW2 ap t.s O:=nA hV_VW2
          have z_VW2:=zS hV_VW2
          clear hV_VW2 c_kt f_kt
          obtain ⟨c_kt,f_kt,l_kt_VW2⟩:=f3 kt
          refine (tHigh_calls (t:=t) _ _ _ _ Hq.out ⟨hA,kt,o_kt⟩).mono ?_
          rintro e_W2 W2 ⟨rfl,hb_W2⟩
          replace hA:=hA.below hb_W2
          replace hF:=hF.below hb_W2
          replace kt:=keep_blk hb_W2 kt
          have z_W2:=hb_W2.size
          clear hb_W2 c_kt f_kt
          obtain ⟨c_kt,f_kt,l_kt_W2⟩:=f3 kt
          go_wp2_with fail
          refine calls_gen fun VW3 hV_VW3=> ?_
          replace kt:=kK hV_VW3 kt
          replace hF:Fr ((oneX tb)) O O w VW3:=nF hV_VW3
          replace hA:AP VW3 ap t.s O:=nA hV_VW3
          have z_VW3:=zS hV_VW3
          clear hV_VW3 c_kt f_kt
          obtain ⟨c_kt,f_kt,l_kt_VW3⟩:=f3 kt
          refine (tOpen_calls (t:=t) y _ ⟨hA,kt,o_kt⟩).mono ?_
          rintro e_W3 W3 ⟨rfl,O1,hT_W3,hf_W3⟩
          clear kt c_kt f_kt o_kt;have kt:=hT_W3.blk;have o_kt:=hT_W3.no
          obtain ⟨c_kt,f_kt,l_kt_W3⟩:=f3 kt
          replace hF:=hF.trans hf_W3
          have z_W3:=hf_W3.size
          clear hA hf_W3;have hA:=hT_W3.hA;clear hT_W3
          go_wp2_with fail
          refine calls_gen fun VW4 hV_VW4=> ?_
          replace kt:=kK hV_VW4 kt
          replace hF:Fr ((oneX tb)) O O1 w VW4:=nF hV_VW4
          replace hA:AP VW4 ap ((t).opened y).s O1:=nA hV_VW4
          have z_VW4:=zS hV_VW4
          clear hV_VW4 c_kt f_kt
          obtain ⟨c_kt,f_kt,l_kt_VW4⟩:=f3 kt
          refine (tHigh_calls (t:=t.opened y) _ _ _ _ Ha.out ⟨hA,kt,o_kt⟩).mono ?_
          rintro e_W4 W4 ⟨rfl,hb_W4⟩
          replace hA:=hA.below hb_W4
          replace hF:=hF.below hb_W4
          replace kt:=keep_blk hb_W4 kt
          have z_W4:=hb_W4.size
          clear hb_W4 c_kt f_kt
          obtain ⟨c_kt,f_kt,l_kt_W4⟩:=f3 kt
          go_wp2_with fail
          refine calls_gen fun VW5 hV_VW5=> ?_
          replace kt:=kK hV_VW5 kt
          replace hF:Fr ((oneX tb)) O O1 w VW5:=nF hV_VW5
          replace hA:AP VW5 ap ((t).opened y).s O1:=nA hV_VW5
          have z_VW5:=zS hV_VW5
          clear hV_VW5 c_kt f_kt
          obtain ⟨c_kt,f_kt,l_kt_VW5⟩:=f3 kt
          refine (tHigh_calls (t:=t.opened y) _ _ _ _ Hb.out ⟨hA,kt,o_kt⟩).mono ?_
          rintro e_W5 W5 ⟨rfl,hb_W5⟩
          replace hA:=hA.below hb_W5
          replace hF:=hF.below hb_W5
          replace kt:=keep_blk hb_W5 kt
          have z_W5:=hb_W5.size
          clear hb_W5 c_kt f_kt
          obtain ⟨c_kt,f_kt,l_kt_W5⟩:=f3 kt
          go_wp2_with fail
          refine calls_gen fun VW6 hV_VW6=> ?_
          replace kt:=kK hV_VW6 kt
          replace hF:Fr ((oneX tb)) O O1 w VW6:=nF hV_VW6
          replace hA:AP VW6 ap ((t).opened y).s O1:=nA hV_VW6
          have z_VW6:=zS hV_VW6
          clear hV_VW6 c_kt f_kt
          obtain ⟨c_kt,f_kt,l_kt_VW6⟩:=f3 kt
          refine (tPair_calls (t:=t.opened y) _ _ _ ⟨hA,kt,o_kt⟩).mono ?_
          rintro e_W6 W6 ⟨rfl,O2,hT_W6,hf_W6⟩
          clear kt c_kt f_kt o_kt;have kt:=hT_W6.blk;have o_kt:=hT_W6.no
          obtain ⟨c_kt,f_kt,l_kt_W6⟩:=f3 kt
          replace hF:=hF.trans hf_W6
          have z_W6:=hf_W6.size
          clear hA hf_W6;have hA:=hT_W6.hA;clear hT_W6
          go_wp2_with fail
          refine calls_gen fun VW7 hV_VW7=> ?_
          replace kt:=kK hV_VW7 kt
          replace hF:Fr ((oneX tb)) O O2 w VW7:=nF hV_VW7
          replace hA:AP VW7 ap (((t.opened y).pair x (t.s.get y).k0).2).s O2:=nA hV_VW7
          have z_VW7:=zS hV_VW7
          clear hV_VW7 c_kt f_kt
          obtain ⟨c_kt,f_kt,l_kt_VW7⟩:=f3 kt
          refine (tPair_calls (t:=((t.opened y).pair x (t.s.get y).k0).2) _ _ _ ⟨hA,kt,o_kt⟩).mono ?_
          rintro e_W7 W7 ⟨rfl,O3,hT_W7,hf_W7⟩
          clear kt c_kt f_kt o_kt;have kt:=hT_W7.blk;have o_kt:=hT_W7.no
          obtain ⟨c_kt,f_kt,l_kt_W7⟩:=f3 kt
          replace hF:=hF.trans hf_W7
          have z_W7:=hf_W7.size
          clear hA hf_W7;have hA:=hT_W7.hA;clear hT_W7
          go_wp2_with fail
          go_ret
          exact ⟨rfl,O3,⟨hA,kt,o_kt⟩,hF⟩
        · have d3:decide (b≤a)=false:=by simpa using c2
          rw [if_neg c2] at hr
          clear c2
          obtain rfl:=Option.some.inj hr
          clear hr
          go_enter Tryz.func145,Tryz.ntmps145
          have hA:=hT.hA
          have kt:=hT.blk
          have o_kt:=hT.no
          obtain ⟨c_kt,f_kt,l_kt_w⟩:=f3 kt
          go_wp2_with fail
          refine calls_gen fun VW1 hV_VW1=> ?_
          replace kt:=kK hV_VW1 kt
          have hF:Fr ((oneX tb)) O O w VW1:=nF hV_VW1
          replace hA:AP VW1 ap t.s O:=nA hV_VW1
          have z_VW1:=zS hV_VW1
          clear hV_VW1 c_kt f_kt
          obtain ⟨c_kt,f_kt,l_kt_VW1⟩:=f3 kt
          refine (tHigh_calls (t:=t) _ _ _ _ Hp.out ⟨hA,kt,o_kt⟩).mono ?_
          rintro e_W1 W1 ⟨rfl,hb_W1⟩
          replace hA:=hA.below hb_W1
          replace hF:=hF.below hb_W1
          replace kt:=keep_blk hb_W1 kt
          have z_W1:=hb_W1.size
          clear hb_W1 c_kt f_kt
          obtain ⟨c_kt,f_kt,l_kt_W1⟩:=f3 kt
          go_wp2_with fail
          refine calls_gen fun VW2 hV_VW2=> ?_
          replace kt:=kK hV_VW2 kt
          replace hF:Fr ((oneX tb)) O O w VW2:=nF hV_VW2
          replace hA:AP VW2 ap t.s O:=nA hV_VW2
          have z_VW2:=zS hV_VW2
          clear hV_VW2 c_kt f_kt
          obtain ⟨c_kt,f_kt,l_kt_VW2⟩:=f3 kt
          refine (tHigh_calls (t:=t) _ _ _ _ Hq.out ⟨hA,kt,o_kt⟩).mono ?_
          rintro e_W2 W2 ⟨rfl,hb_W2⟩
          replace hA:=hA.below hb_W2
          replace hF:=hF.below hb_W2
          replace kt:=keep_blk hb_W2 kt
          have z_W2:=hb_W2.size
          clear hb_W2 c_kt f_kt
          obtain ⟨c_kt,f_kt,l_kt_W2⟩:=f3 kt
          go_wp2_with fail
          refine calls_gen fun VW3 hV_VW3=> ?_
          replace kt:=kK hV_VW3 kt
          replace hF:Fr ((oneX tb)) O O w VW3:=nF hV_VW3
          replace hA:AP VW3 ap t.s O:=nA hV_VW3
          have z_VW3:=zS hV_VW3
          clear hV_VW3 c_kt f_kt
          obtain ⟨c_kt,f_kt,l_kt_VW3⟩:=f3 kt
          refine (tOpen_calls (t:=t) y _ ⟨hA,kt,o_kt⟩).mono ?_
          rintro e_W3 W3 ⟨rfl,O1,hT_W3,hf_W3⟩
          clear kt c_kt f_kt o_kt;have kt:=hT_W3.blk;have o_kt:=hT_W3.no
          obtain ⟨c_kt,f_kt,l_kt_W3⟩:=f3 kt
          replace hF:=hF.trans hf_W3
          have z_W3:=hf_W3.size
          clear hA hf_W3;have hA:=hT_W3.hA;clear hT_W3
          go_wp2_with fail
          refine calls_gen fun VW4 hV_VW4=> ?_
          replace kt:=kK hV_VW4 kt
          replace hF:Fr ((oneX tb)) O O1 w VW4:=nF hV_VW4
          replace hA:AP VW4 ap ((t).opened y).s O1:=nA hV_VW4
          have z_VW4:=zS hV_VW4
          clear hV_VW4 c_kt f_kt
          obtain ⟨c_kt,f_kt,l_kt_VW4⟩:=f3 kt
          refine (tHigh_calls (t:=t.opened y) _ _ _ _ Ha.out ⟨hA,kt,o_kt⟩).mono ?_
          rintro e_W4 W4 ⟨rfl,hb_W4⟩
          replace hA:=hA.below hb_W4
          replace hF:=hF.below hb_W4
          replace kt:=keep_blk hb_W4 kt
          have z_W4:=hb_W4.size
          clear hb_W4 c_kt f_kt
          obtain ⟨c_kt,f_kt,l_kt_W4⟩:=f3 kt
          go_wp2_with fail
          refine calls_gen fun VW5 hV_VW5=> ?_
          replace kt:=kK hV_VW5 kt
          replace hF:Fr ((oneX tb)) O O1 w VW5:=nF hV_VW5
          replace hA:AP VW5 ap ((t).opened y).s O1:=nA hV_VW5
          have z_VW5:=zS hV_VW5
          clear hV_VW5 c_kt f_kt
          obtain ⟨c_kt,f_kt,l_kt_VW5⟩:=f3 kt
          refine (tHigh_calls (t:=t.opened y) _ _ _ _ Hb.out ⟨hA,kt,o_kt⟩).mono ?_
          rintro e_W5 W5 ⟨rfl,hb_W5⟩
          replace hA:=hA.below hb_W5
          replace hF:=hF.below hb_W5
          replace kt:=keep_blk hb_W5 kt
          have z_W5:=hb_W5.size
          clear hb_W5 c_kt f_kt
          obtain ⟨c_kt,f_kt,l_kt_W5⟩:=f3 kt
          go_wp2_with fail
          refine calls_gen fun VW6 hV_VW6=> ?_
          replace kt:=kK hV_VW6 kt
          replace hF:Fr ((oneX tb)) O O1 w VW6:=nF hV_VW6
          replace hA:AP VW6 ap ((t).opened y).s O1:=nA hV_VW6
          have z_VW6:=zS hV_VW6
          clear hV_VW6 c_kt f_kt
          obtain ⟨c_kt,f_kt,l_kt_VW6⟩:=f3 kt
          refine (tOpen_calls (t:=t.opened y) (t.s.get y).k0 _ ⟨hA,kt,o_kt⟩).mono ?_
          rintro e_W6 W6 ⟨rfl,O2,hT_W6,hf_W6⟩
          clear kt c_kt f_kt o_kt;have kt:=hT_W6.blk;have o_kt:=hT_W6.no
          obtain ⟨c_kt,f_kt,l_kt_W6⟩:=f3 kt
          replace hF:=hF.trans hf_W6
          have z_W6:=hf_W6.size
          clear hA hf_W6;have hA:=hT_W6.hA;clear hT_W6
          go_wp2_with fail
          refine calls_gen fun VW7 hV_VW7=> ?_
          replace kt:=kK hV_VW7 kt
          replace hF:Fr ((oneX tb)) O O2 w VW7:=nF hV_VW7
          replace hA:AP VW7 ap ((t.opened y).opened (t.s.get y).k0).s O2:=nA hV_VW7
          have z_VW7:=zS hV_VW7
          clear hV_VW7 c_kt f_kt
          obtain ⟨c_kt,f_kt,l_kt_VW7⟩:=f3 kt
          refine (tPair_calls (t:=(t.opened y).opened (t.s.get y).k0) _ _ _ ⟨hA,kt,o_kt⟩).mono ?_
          rintro e_W7 W7 ⟨rfl,O3,hT_W7,hf_W7⟩
          clear kt c_kt f_kt o_kt;have kt:=hT_W7.blk;have o_kt:=hT_W7.no
          obtain ⟨c_kt,f_kt,l_kt_W7⟩:=f3 kt
          replace hF:=hF.trans hf_W7
          have z_W7:=hf_W7.size
          clear hA hf_W7;have hA:=hT_W7.hA;clear hT_W7
          go_wp2_with fail
          refine calls_gen fun VW8 hV_VW8=> ?_
          replace kt:=kK hV_VW8 kt
          replace hF:Fr ((oneX tb)) O O3 w VW8:=nF hV_VW8
          replace hA:AP VW8 ap ((((t.opened y).opened (t.s.get y).k0).pair x ((t.opened y).s.get (t.s.get y).k0).k0).2).s O3:=nA hV_VW8
          have z_VW8:=zS hV_VW8
          clear hV_VW8 c_kt f_kt
          obtain ⟨c_kt,f_kt,l_kt_VW8⟩:=f3 kt
          refine (tPair_calls (t:=(((t.opened y).opened (t.s.get y).k0).pair x ((t.opened y).s.get (t.s.get y).k0).k0).2) _ _ _ ⟨hA,kt,o_kt⟩).mono ?_
          rintro e_W8 W8 ⟨rfl,O4,hT_W8,hf_W8⟩
          clear kt c_kt f_kt o_kt;have kt:=hT_W8.blk;have o_kt:=hT_W8.no
          obtain ⟨c_kt,f_kt,l_kt_W8⟩:=f3 kt
          replace hF:=hF.trans hf_W8
          have z_W8:=hf_W8.size
          clear hA hf_W8;have hA:=hT_W8.hA;clear hT_W8
          go_wp2_with fail
          refine calls_gen fun VW9 hV_VW9=> ?_
          replace kt:=kK hV_VW9 kt
          replace hF:Fr ((oneX tb)) O O4 w VW9:=nF hV_VW9
          replace hA:AP VW9 ap ((((((t.opened y).opened (t.s.get y).k0).pair x ((t.opened y).s.get (t.s.get y).k0).k0).2).pair ((t.opened y).s.get (t.s.get y).k0).k1 (t.s.get y).k1).2).s O4:=nA hV_VW9
          have z_VW9:=zS hV_VW9
          clear hV_VW9 c_kt f_kt
          obtain ⟨c_kt,f_kt,l_kt_VW9⟩:=f3 kt
          refine (tPair_calls (t:=((((t.opened y).opened (t.s.get y).k0).pair x ((t.opened y).s.get (t.s.get y).k0).k0).2.pair ((t.opened y).s.get (t.s.get y).k0).k1 (t.s.get y).k1).2) _ _ _ ⟨hA,kt,o_kt⟩).mono ?_
          rintro e_W9 W9 ⟨rfl,O5,hT_W9,hf_W9⟩
          clear kt c_kt f_kt o_kt;have kt:=hT_W9.blk;have o_kt:=hT_W9.no
          obtain ⟨c_kt,f_kt,l_kt_W9⟩:=f3 kt
          replace hF:=hF.trans hf_W9
          have z_W9:=hf_W9.size
          clear hA hf_W9;have hA:=hT_W9.hA;clear hT_W9
          go_wp2_with fail
          go_ret
          exact ⟨rfl,O5,⟨hA,kt,o_kt⟩,hF⟩
      · have d4:decide (wrap64 (p+1)<q)=false:=by simpa using c3
        rw [if_neg c3] at hr
        clear c3
        obtain rfl:=Option.some.inj hr
        clear hr
        go_enter Tryz.func145,Tryz.ntmps145
        have hA:=hT.hA
        have kt:=hT.blk
        have o_kt:=hT.no
        obtain ⟨c_kt,f_kt,l_kt_w⟩:=f3 kt
        go_wp2_with fail
        refine calls_gen fun VW1 hV_VW1=> ?_
        replace kt:=kK hV_VW1 kt
        have hF:Fr ((oneX tb)) O O w VW1:=nF hV_VW1
        replace hA:AP VW1 ap t.s O:=nA hV_VW1
        have z_VW1:=zS hV_VW1
        clear hV_VW1 c_kt f_kt
        obtain ⟨c_kt,f_kt,l_kt_VW1⟩:=f3 kt
        refine (tHigh_calls (t:=t) _ _ _ _ Hp.out ⟨hA,kt,o_kt⟩).mono ?_
        rintro e_W1 W1 ⟨rfl,hb_W1⟩
        replace hA:=hA.below hb_W1
        replace hF:=hF.below hb_W1
        replace kt:=keep_blk hb_W1 kt
        have z_W1:=hb_W1.size
        clear hb_W1 c_kt f_kt
        obtain ⟨c_kt,f_kt,l_kt_W1⟩:=f3 kt
        go_wp2_with fail
        refine calls_gen fun VW2 hV_VW2=> ?_
        replace kt:=kK hV_VW2 kt
        replace hF:Fr ((oneX tb)) O O w VW2:=nF hV_VW2
        replace hA:AP VW2 ap t.s O:=nA hV_VW2
        have z_VW2:=zS hV_VW2
        clear hV_VW2 c_kt f_kt
        obtain ⟨c_kt,f_kt,l_kt_VW2⟩:=f3 kt
        refine (tHigh_calls (t:=t) _ _ _ _ Hq.out ⟨hA,kt,o_kt⟩).mono ?_
        rintro e_W2 W2 ⟨rfl,hb_W2⟩
        replace hA:=hA.below hb_W2
        replace hF:=hF.below hb_W2
        replace kt:=keep_blk hb_W2 kt
        have z_W2:=hb_W2.size
        clear hb_W2 c_kt f_kt
        obtain ⟨c_kt,f_kt,l_kt_W2⟩:=f3 kt
        go_wp2_with fail
        refine calls_gen fun VW3 hV_VW3=> ?_
        replace kt:=kK hV_VW3 kt
        replace hF:Fr ((oneX tb)) O O w VW3:=nF hV_VW3
        replace hA:AP VW3 ap t.s O:=nA hV_VW3
        have z_VW3:=zS hV_VW3
        clear hV_VW3 c_kt f_kt
        obtain ⟨c_kt,f_kt,l_kt_VW3⟩:=f3 kt
        refine (tPair_calls (t:=t) _ _ _ ⟨hA,kt,o_kt⟩).mono ?_
        rintro e_W3 W3 ⟨rfl,O1,hT_W3,hf_W3⟩
        clear kt c_kt f_kt o_kt;have kt:=hT_W3.blk;have o_kt:=hT_W3.no
        obtain ⟨c_kt,f_kt,l_kt_W3⟩:=f3 kt
        replace hF:=hF.trans hf_W3
        have z_W3:=hf_W3.size
        clear hA hf_W3;have hA:=hT_W3.hA;clear hT_W3
        go_wp2_with fail
        go_ret
        exact ⟨rfl,O1,⟨hA,kt,o_kt⟩,hF⟩
  · have d1:(t.e !=0)=true:=by simp [he]
    rw [if_neg he] at hr
    clear he
    obtain rfl:=Option.some.inj hr
    clear hr
    go_enter Tryz.func145,Tryz.ntmps145
    have hA:=hT.hA
    have kt:=hT.blk
    have o_kt:=hT.no
    obtain ⟨c_kt,f_kt,l_kt_w⟩:=f3 kt
    go_wp2_with fail
    refine calls_gen fun V hV_V=> ?_
    have n_kl:=hbk hV_V (w.heap.size)
    simp (maxDischargeDepth:=9) only [BK,not_false_eq_true,reduceCtorEq,kt,l_kt_w] at n_kl
    have o_kl: ¬O (w.heap.size):=by first|exact hA.new (Nat.le_refl _)|exact hA.new (by omega)
    replace kt:=kK hV_V kt
    have hF:Fr ((oneX tb)) O O w V:=nF hV_V
    replace hA:AP V ap t.s O:=nA hV_V
    have z_V:=zS hV_V
    clear hV_V c_kt f_kt
    obtain ⟨c_kt,f_kt,l_kt_V⟩:=f3 kt
    have kl:=n_kl;clear n_kl
    obtain ⟨c_kl,f_kl,l_kl_V⟩:=f3 kl
    refine (tDrop_calls [x,y] w.heap.size 0 2 _ _ (by simp) _ ⟨hA,kt,o_kt⟩ kl (two_cell x y) o_kl (by omega) 2 rfl).mono ?_
    rintro e_W1 W1 ⟨rfl,O1,hT_W1,hf_W1⟩
    have q_kl:=hf_W1.keep kl o_kl (by unfold oneX;omega)
    replace o_kl:=hf_W1.not_own (lt_of kl) o_kl
    clear kl;have kl:=q_kl;clear q_kl
    obtain ⟨c_kl,f_kl,l_kl_W1⟩:=f3 kl
    clear kt c_kt f_kt o_kt;have kt:=hT_W1.blk;have o_kt:=hT_W1.no
    obtain ⟨c_kt,f_kt,l_kt_W1⟩:=f3 kt
    replace hF:=hF.trans hf_W1
    have z_W1:=hf_W1.size
    clear hA hf_W1;have hA:=hT_W1.hA;clear hT_W1
    go_wp2_with fail
    go_ret
    exact ⟨rfl,O1,⟨hA,kt,o_kt⟩,hF⟩
end Go.Proofs.YtdjpjmkpndmhaaaGreat
namespace Go.Proofs.YtdjpjmkpndmhaaaGreat
open Go.RowKit
attribute [local go_sem ↓] Go.wp_at_zero Go.wp_at_succ
attribute [local go_sem] lt_s2 lt_s3 lt_s4
variable {ap : Value} {O : Nat → Prop} {tb : Nat} {t : Tb}
theorem lfL_le (a n:Int):(lfL a n).length≤64:=by
 unfold lfL;split
 ·
  rename_i h
  rw [unpack_length]
  have h0:=h.1;have h1:=h.2.1
  omega
 ·
  simp
theorem insR_le (ok:Bool) (l:List Bool) (i:Int) (one:Bool):(insR ok l i one).length≤64:=by
 unfold insR;split
 ·
  rename_i h
  unfold insOk at h
  simp only [Bool.and_eq_true,decide_eq_true_eq] at h
  rw [insL_length];omega
 ·
  simp
theorem insert_l (l:List Bool) (hl:l.length≤64) (i:Int) (one:Bool) (w:World):Calls Tryz.prog 141 #[.agg #[.int .u64 (pack l:Int), .int .i64 (l.length:Int)], .int .i64 i, .bool one] w fun e w'=>
  e= .returned (.tuple #[.agg #[.int .u64 (pack (insR true l i one):Int), .int .i64 ((insR true l i one).length:Int)], .bool (insOk true l i)])∧Below w.heap.size w w':=insert_lf (lf_self hl) i one _ _ rfl rfl w
theorem insert_nil (one:Bool) (w:World):Calls Tryz.prog 141 #[.agg #[.int .u64 0, .int .i64 0], .int .i64 0, .bool one] w fun e w'=>
  e= .returned (.tuple #[.agg #[.int .u64 (pack (insR true [] 0 one):Int), .int .i64 ((insR true [] 0 one).length:Int)], .bool (insOk true [] 0)])∧Below w.heap.size w w':=insert_l [] (by simp) 0 one w
theorem split_32 {a n:Int} (hU:U64 a) (l1 l2:List Bool) (h1:l1=(lfL a n).take 32) (h2:l2=(lfL a n).drop 32) (w:World):Calls Tryz.prog 143 #[.agg #[.int .u64 a, .int .i64 n], .int .i64 32] w fun e w'=>
  e= .returned (.tuple #[.agg #[.int .u64 (pack l1:Int), .int .i64 (l1.length:Int)], .agg #[.int .u64 (pack l2:Int), .int .i64 (l2.length:Int)]])∧Below w.heap.size w w':=by
 subst h1 h2;exact split_i hU 32 w
theorem insert_c (l c:List Bool) (hl:l.length≤64) (i:Int) (one:Bool) (hc:c=insR true l i one) (w:World):Calls Tryz.prog 141 #[.agg #[.int .u64 (pack l:Int), .int .i64 (l.length:Int)], .int .i64 i, .bool one] w fun e w'=>
  e= .returned (.tuple #[.agg #[.int .u64 (pack c:Int), .int .i64 (c.length:Int)], .bool (insOk true l i)])∧Below w.heap.size w w':=by
 subst hc;exact insert_l l hl i one w
theorem two_def (t:Tb) (a b:List Bool):t.two a b=((t.leaf a).2.leaf b).2.pairOr (t.leaf a).1 ((t.leaf a).2.leaf b).1:=rfl
set_option maxRecDepth 100000 in
set_option maxHeartbeats 2000000 in
theorem tIns_nil (one:Bool) (k:Nat) (h i:Int) (r:Int×Tb) (w:World) (hT:TB w tb ap t O) (h1:bIs t.s h=false) (hr:some (t.leaf (insR true [] 0 one))=some r):
  Calls Tryz.prog 110 #[.pointer (some ⟨tb,0,none⟩), .int .i64 h, .int .i64 i, .bool one] w fun e w'=>e= .returned (.int .i64 r.1)∧DidT tb ap r.2 O w w':=by
 obtain rfl:=Option.some.inj hr
 clear hr
 go_enter Tryz.func110,Tryz.ntmps110
 have hA:=hT.hA
 have kt:=hT.blk
 have o_kt:=hT.no
 obtain ⟨c_kt,f_kt,l_kt_w⟩:=f3 kt
 go_wp2_with fail
 refine calls_gen fun V hV_V=> ?_
 replace kt:=kK hV_V kt
 have hF:Fr ((oneX tb)) O O w V:=nF hV_V
 replace hA:AP V ap t.s O:=nA hV_V
 have z_V:=zS hV_V
 clear hV_V c_kt f_kt
 obtain ⟨c_kt,f_kt,l_kt_V⟩:=f3 kt
 refine (bRow_calls _ _ hA).mono ?_
 rintro e_W1 W1 ⟨rfl,hb_W1⟩
 replace hA:=hA.below hb_W1
 replace hF:=hF.below hb_W1
 replace kt:=keep_blk hb_W1 kt
 have z_W1:=hb_W1.size
 clear hb_W1 c_kt f_kt
 obtain ⟨c_kt,f_kt,l_kt_W1⟩:=f3 kt
 unfold Nd.val
 go_wp2_with fail
 refine calls_gen fun V1 hV_V1=> ?_
 replace kt:=kK hV_V1 kt
 replace hF:Fr ((oneX tb)) O O w V1:=nF hV_V1
 replace hA:AP V1 ap t.s O:=nA hV_V1
 have z_V1:=zS hV_V1
 clear hV_V1 c_kt f_kt
 obtain ⟨c_kt,f_kt,l_kt_V1⟩:=f3 kt
 refine (insert_nil one _).mono ?_
 rintro e_W2 W2 ⟨rfl,hb_W2⟩
 replace hA:=hA.below hb_W2
 replace hF:=hF.below hb_W2
 replace kt:=keep_blk hb_W2 kt
 have z_W2:=hb_W2.size
 clear hb_W2 c_kt f_kt
 obtain ⟨c_kt,f_kt,l_kt_W2⟩:=f3 kt
 go_wp2_with fail
 refine calls_gen fun V2 hV_V2=> ?_
 replace kt:=kK hV_V2 kt
 replace hF:Fr ((oneX tb)) O O w V2:=nF hV_V2
 replace hA:AP V2 ap t.s O:=nA hV_V2
 have z_V2:=zS hV_V2
 clear hV_V2 c_kt f_kt
 obtain ⟨c_kt,f_kt,l_kt_V2⟩:=f3 kt
 refine (tLeaf_calls _ (insR_le true [] 0 one) _ ⟨hA,kt,o_kt⟩).mono ?_
 rintro e_W3 W3 ⟨rfl,O1,hT_W3,hf_W3⟩
 clear kt c_kt f_kt o_kt;have kt:=hT_W3.blk;have o_kt:=hT_W3.no
 obtain ⟨c_kt,f_kt,l_kt_W3⟩:=f3 kt
 replace hF:=hF.trans hf_W3
 have z_W3:=hf_W3.size
 clear hA hf_W3;have hA:=hT_W3.hA;clear hT_W3
 go_wp2_with fail
 go_ret
 exact ⟨rfl,O1,⟨hA,kt,o_kt⟩,hF⟩
set_option maxRecDepth 100000 in
set_option maxHeartbeats 2000000 in
theorem tIns_fits (one:Bool) (k:Nat) (h i:Int) (r:Int×Tb) (w:World) (hT:TB w tb ap t O) (h1:bIs t.s h=true) (d1:((t.s.get h).tag==1)=true) (hU:U64 (t.s.get h).a) (h3:insOk (lfK (t.s.get h)) (lfB (t.s.get h)) i=true) (hr:some (t.leaf (insR (lfK (t.s.get h)) (lfB (t.s.get h)) i one))=some r):
  Calls Tryz.prog 110 #[.pointer (some ⟨tb,0,none⟩), .int .i64 h, .int .i64 i, .bool one] w fun e w'=>e= .returned (.int .i64 r.1)∧DidT tb ap r.2 O w w':=by
 obtain rfl:=Option.some.inj hr
 clear hr
 have d2:insOk (lfOk (t.s.get h).a (wrap64 (t.s.get h).b)) (lfL (t.s.get h).a (wrap64 (t.s.get h).b)) i=true:=h3
 clear h3
 go_enter Tryz.func110,Tryz.ntmps110
 have hA:=hT.hA
 have kt:=hT.blk
 have o_kt:=hT.no
 obtain ⟨c_kt,f_kt,l_kt_w⟩:=f3 kt
 go_wp2_with fail
 refine calls_gen fun V hV_V=> ?_
 replace kt:=kK hV_V kt
 have hF:Fr ((oneX tb)) O O w V:=nF hV_V
 replace hA:AP V ap t.s O:=nA hV_V
 have z_V:=zS hV_V
 clear hV_V c_kt f_kt
 obtain ⟨c_kt,f_kt,l_kt_V⟩:=f3 kt
 refine (bRow_calls _ _ hA).mono ?_
 rintro e_W1 W1 ⟨rfl,hb_W1⟩
 replace hA:=hA.below hb_W1
 replace hF:=hF.below hb_W1
 replace kt:=keep_blk hb_W1 kt
 have z_W1:=hb_W1.size
 clear hb_W1 c_kt f_kt
 obtain ⟨c_kt,f_kt,l_kt_W1⟩:=f3 kt
 unfold Nd.val
 go_wp2_with fail
 refine calls_gen fun V1 hV_V1=> ?_
 have n_kn:=hbk hV_V1 (W1.heap.size)
 simp (maxDischargeDepth:=9) only [BK,not_false_eq_true,reduceCtorEq,kt,l_kt_w,l_kt_V,l_kt_W1] at n_kn
 have o_kn: ¬O (W1.heap.size):=by first|exact hA.new (Nat.le_refl _)|exact hA.new (by omega)
 replace kt:=kK hV_V1 kt
 replace hF:Fr ((oneX tb)) O O w V1:=nF hV_V1
 replace hA:AP V1 ap t.s O:=nA hV_V1
 have z_V1:=zS hV_V1
 clear hV_V1 c_kt f_kt
 obtain ⟨c_kt,f_kt,l_kt_V1⟩:=f3 kt
 have kn:=n_kn;clear n_kn
 obtain ⟨c_kn,f_kn,l_kn_V1⟩:=f3 kn
 refine (bBits_calls (t.s.get h) _).mono ?_
 rintro e_W2 W2 ⟨rfl,hb_W2⟩
 replace hA:=hA.below hb_W2
 replace hF:=hF.below hb_W2
 replace kt:=keep_blk hb_W2 kt
 replace kn:=keep_blk hb_W2 kn
 have z_W2:=hb_W2.size
 clear hb_W2 c_kt f_kt c_kn f_kn
 obtain ⟨c_kt,f_kt,l_kt_W2⟩:=f3 kt
 obtain ⟨c_kn,f_kn,l_kn_W2⟩:=f3 kn
 go_wp2_with fail
 refine calls_gen fun V2 hV_V2=> ?_
 have n_kl:=hbk hV_V2 (W2.heap.size)
 simp (maxDischargeDepth:=9) only [BK,not_false_eq_true,reduceCtorEq,kt,kn,l_kt_w,l_kt_V,l_kt_W1,l_kt_V1,l_kn_V1,l_kt_W2,l_kn_W2] at n_kl
 have o_kl: ¬O (W2.heap.size):=by first|exact hA.new (Nat.le_refl _)|exact hA.new (by omega)
 replace kt:=kK hV_V2 kt
 replace kn:=kK hV_V2 kn
 replace hF:Fr ((oneX tb)) O O w V2:=nF hV_V2
 replace hA:AP V2 ap t.s O:=nA hV_V2
 have z_V2:=zS hV_V2
 clear hV_V2 c_kt f_kt c_kn f_kn
 obtain ⟨c_kt,f_kt,l_kt_V2⟩:=f3 kt
 obtain ⟨c_kn,f_kn,l_kn_V2⟩:=f3 kn
 have kl:=n_kl;clear n_kl
 obtain ⟨c_kl,f_kl,l_kl_V2⟩:=f3 kl
 refine (insert_i hU i one _).mono ?_
 rintro e_W3 W3 ⟨rfl,hb_W3⟩
 replace hA:=hA.below hb_W3
 replace hF:=hF.below hb_W3
 replace kt:=keep_blk hb_W3 kt
 replace kn:=keep_blk hb_W3 kn
 replace kl:=keep_blk hb_W3 kl
 have z_W3:=hb_W3.size
 clear hb_W3 c_kt f_kt c_kn f_kn c_kl f_kl
 obtain ⟨c_kt,f_kt,l_kt_W3⟩:=f3 kt
 obtain ⟨c_kn,f_kn,l_kn_W3⟩:=f3 kn
 obtain ⟨c_kl,f_kl,l_kl_W3⟩:=f3 kl
 go_wp2_with fail
 refine calls_gen fun V3 hV_V3=> ?_
 have n_kx:=hbk hV_V3 (W3.heap.size)
 simp (maxDischargeDepth:=9) only [BK,not_false_eq_true,reduceCtorEq,kt,kn,kl,l_kt_w,l_kt_V,l_kt_W1,l_kt_V1,l_kn_V1,l_kt_W2,l_kn_W2,l_kt_V2,l_kn_V2,l_kl_V2,l_kt_W3,l_kn_W3,l_kl_W3] at n_kx
 have o_kx: ¬O (W3.heap.size):=by first|exact hA.new (Nat.le_refl _)|exact hA.new (by omega)
 replace kt:=kK hV_V3 kt
 replace kn:=kK hV_V3 kn
 replace kl:=kK hV_V3 kl
 replace hF:Fr ((oneX tb)) O O w V3:=nF hV_V3
 replace hA:AP V3 ap t.s O:=nA hV_V3
 have z_V3:=zS hV_V3
 clear hV_V3 c_kt f_kt c_kn f_kn c_kl f_kl
 obtain ⟨c_kt,f_kt,l_kt_V3⟩:=f3 kt
 obtain ⟨c_kn,f_kn,l_kn_V3⟩:=f3 kn
 obtain ⟨c_kl,f_kl,l_kl_V3⟩:=f3 kl
 have kx:=n_kx;clear n_kx
 obtain ⟨c_kx,f_kx,l_kx_V3⟩:=f3 kx
 refine (tLeaf_calls _ (insR_le (lfK (t.s.get h)) (lfB (t.s.get h)) i one) _ ⟨hA,kt,o_kt⟩).mono ?_
 rintro e_W4 W4 ⟨rfl,O1,hT_W4,hf_W4⟩
 have q_kn:=hf_W4.keep kn o_kn (by unfold oneX;omega)
 have q_kl:=hf_W4.keep kl o_kl (by unfold oneX;omega)
 have q_kx:=hf_W4.keep kx o_kx (by unfold oneX;omega)
 replace o_kn:=hf_W4.not_own (lt_of kn) o_kn
 clear kn;have kn:=q_kn;clear q_kn
 obtain ⟨c_kn,f_kn,l_kn_W4⟩:=f3 kn
 replace o_kl:=hf_W4.not_own (lt_of kl) o_kl
 clear kl;have kl:=q_kl;clear q_kl
 obtain ⟨c_kl,f_kl,l_kl_W4⟩:=f3 kl
 replace o_kx:=hf_W4.not_own (lt_of kx) o_kx
 clear kx;have kx:=q_kx;clear q_kx
 obtain ⟨c_kx,f_kx,l_kx_W4⟩:=f3 kx
 clear kt c_kt f_kt o_kt;have kt:=hT_W4.blk;have o_kt:=hT_W4.no
 obtain ⟨c_kt,f_kt,l_kt_W4⟩:=f3 kt
 replace hF:=hF.trans hf_W4
 have z_W4:=hf_W4.size
 clear hA hf_W4;have hA:=hT_W4.hA;clear hT_W4
 go_wp2_with fail
 go_ret
 exact ⟨rfl,O1,⟨hA,kt,o_kt⟩,hF⟩
set_option maxRecDepth 100000 in
set_option maxHeartbeats 2000000 in
theorem tIns_l (one:Bool) (k:Nat) (h i:Int) (r:Int×Tb) (w:World) (hT:TB w tb ap t O) (h1:bIs t.s h=true) (d1:((t.s.get h).tag==1)=true) (hU:U64 (t.s.get h).a) (d2:insOk (lfOk (t.s.get h).a (wrap64 (t.s.get h).b)) (lfL (t.s.get h).a (wrap64 (t.s.get h).b)) i=false) (l1 l2:List Bool) (H1:Hid (l1=(lfL (t.s.get h).a (wrap64 (t.s.get h).b)).take 32)) (H2:Hid (l2=(lfL (t.s.get h).a (wrap64 (t.s.get h).b)).drop 32)) (e1:l1.length≤64) (e2:l2.length≤64) (d3:decide (i≤(l1.length:Int))=true) (hr:some (t.two (insR true l1 i one) l2)=some r):
  Calls Tryz.prog 110 #[.pointer (some ⟨tb,0,none⟩), .int .i64 h, .int .i64 i, .bool one] w fun e w'=>e= .returned (.int .i64 r.1)∧DidT tb ap r.2 O w w':=by
 obtain ⟨c,H3⟩: ∃c,Hid (c=insR true l1 i one):=⟨_,Lib.hid rfl⟩
 have e3:c.length≤64:=by rw [H3.out];exact insR_le _ _ _ _
 rw [←H3.out] at hr
 obtain rfl:=Option.some.inj hr
 clear hr
 go_enter Tryz.func110,Tryz.ntmps110
 have hA:=hT.hA
 have kt:=hT.blk
 have o_kt:=hT.no
 obtain ⟨c_kt,f_kt,l_kt_w⟩:=f3 kt
 go_wp2_with fail
 refine calls_gen fun V hV_V=> ?_
 replace kt:=kK hV_V kt
 have hF:Fr ((oneX tb)) O O w V:=nF hV_V
 replace hA:AP V ap t.s O:=nA hV_V
 have z_V:=zS hV_V
 clear hV_V c_kt f_kt
 obtain ⟨c_kt,f_kt,l_kt_V⟩:=f3 kt
 refine (bRow_calls _ _ hA).mono ?_
 rintro e_W1 W1 ⟨rfl,hb_W1⟩
 replace hA:=hA.below hb_W1
 replace hF:=hF.below hb_W1
 replace kt:=keep_blk hb_W1 kt
 have z_W1:=hb_W1.size
 clear hb_W1 c_kt f_kt
 obtain ⟨c_kt,f_kt,l_kt_W1⟩:=f3 kt
 unfold Nd.val
 go_wp2_with fail
 refine calls_gen fun V1 hV_V1=> ?_
 have n_kn:=hbk hV_V1 (W1.heap.size)
 simp (maxDischargeDepth:=9) only [BK,not_false_eq_true,reduceCtorEq,kt,l_kt_w,l_kt_V,l_kt_W1] at n_kn
 have o_kn: ¬O (W1.heap.size):=by first|exact hA.new (Nat.le_refl _)|exact hA.new (by omega)
 replace kt:=kK hV_V1 kt
 replace hF:Fr ((oneX tb)) O O w V1:=nF hV_V1
 replace hA:AP V1 ap t.s O:=nA hV_V1
 have z_V1:=zS hV_V1
 clear hV_V1 c_kt f_kt
 obtain ⟨c_kt,f_kt,l_kt_V1⟩:=f3 kt
 have kn:=n_kn;clear n_kn
 obtain ⟨c_kn,f_kn,l_kn_V1⟩:=f3 kn
 refine (bBits_calls (t.s.get h) _).mono ?_
 rintro e_W2 W2 ⟨rfl,hb_W2⟩
 replace hA:=hA.below hb_W2
 replace hF:=hF.below hb_W2
 replace kt:=keep_blk hb_W2 kt
 replace kn:=keep_blk hb_W2 kn
 have z_W2:=hb_W2.size
 clear hb_W2 c_kt f_kt c_kn f_kn
 obtain ⟨c_kt,f_kt,l_kt_W2⟩:=f3 kt
 obtain ⟨c_kn,f_kn,l_kn_W2⟩:=f3 kn
 go_wp2_with fail
 refine calls_gen fun V2 hV_V2=> ?_
 have n_kl:=hbk hV_V2 (W2.heap.size)
 simp (maxDischargeDepth:=9) only [BK,not_false_eq_true,reduceCtorEq,kt,kn,l_kt_w,l_kt_V,l_kt_W1,l_kt_V1,l_kn_V1,l_kt_W2,l_kn_W2] at n_kl
 have o_kl: ¬O (W2.heap.size):=by first|exact hA.new (Nat.le_refl _)|exact hA.new (by omega)
 replace kt:=kK hV_V2 kt
 replace kn:=kK hV_V2 kn
 replace hF:Fr ((oneX tb)) O O w V2:=nF hV_V2
 replace hA:AP V2 ap t.s O:=nA hV_V2
 have z_V2:=zS hV_V2
 clear hV_V2 c_kt f_kt c_kn f_kn
 obtain ⟨c_kt,f_kt,l_kt_V2⟩:=f3 kt
 obtain ⟨c_kn,f_kn,l_kn_V2⟩:=f3 kn
 have kl:=n_kl;clear n_kl
 obtain ⟨c_kl,f_kl,l_kl_V2⟩:=f3 kl
 refine (insert_i hU i one _).mono ?_
 rintro e_W3 W3 ⟨rfl,hb_W3⟩
 replace hA:=hA.below hb_W3
 replace hF:=hF.below hb_W3
 replace kt:=keep_blk hb_W3 kt
 replace kn:=keep_blk hb_W3 kn
 replace kl:=keep_blk hb_W3 kl
 have z_W3:=hb_W3.size
 clear hb_W3 c_kt f_kt c_kn f_kn c_kl f_kl
 obtain ⟨c_kt,f_kt,l_kt_W3⟩:=f3 kt
 obtain ⟨c_kn,f_kn,l_kn_W3⟩:=f3 kn
 obtain ⟨c_kl,f_kl,l_kl_W3⟩:=f3 kl
 go_wp2_with fail
 refine calls_gen fun V3 hV_V3=> ?_
 have n_kx:=hbk hV_V3 (W3.heap.size)
 simp (maxDischargeDepth:=9) only [BK,not_false_eq_true,reduceCtorEq,kt,kn,kl,l_kt_w,l_kt_V,l_kt_W1,l_kt_V1,l_kn_V1,l_kt_W2,l_kn_W2,l_kt_V2,l_kn_V2,l_kl_V2,l_kt_W3,l_kn_W3,l_kl_W3] at n_kx
 have o_kx: ¬O (W3.heap.size):=by first|exact hA.new (Nat.le_refl _)|exact hA.new (by omega)
 replace kt:=kK hV_V3 kt
 replace kn:=kK hV_V3 kn
 replace kl:=kK hV_V3 kl
 replace hF:Fr ((oneX tb)) O O w V3:=nF hV_V3
 replace hA:AP V3 ap t.s O:=nA hV_V3
 have z_V3:=zS hV_V3
 clear hV_V3 c_kt f_kt c_kn f_kn c_kl f_kl
 obtain ⟨c_kt,f_kt,l_kt_V3⟩:=f3 kt
 obtain ⟨c_kn,f_kn,l_kn_V3⟩:=f3 kn
 obtain ⟨c_kl,f_kl,l_kl_V3⟩:=f3 kl
 have kx:=n_kx;clear n_kx
 obtain ⟨c_kx,f_kx,l_kx_V3⟩:=f3 kx
 refine (split_32 hU l1 l2 H1.out H2.out _).mono ?_
 rintro e_W4 W4 ⟨rfl,hb_W4⟩
 replace hA:=hA.below hb_W4
 replace hF:=hF.below hb_W4
 replace kt:=keep_blk hb_W4 kt
 replace kn:=keep_blk hb_W4 kn
 replace kl:=keep_blk hb_W4 kl
 replace kx:=keep_blk hb_W4 kx
 have z_W4:=hb_W4.size
 clear hb_W4 c_kt f_kt c_kn f_kn c_kl f_kl c_kx f_kx
 obtain ⟨c_kt,f_kt,l_kt_W4⟩:=f3 kt
 obtain ⟨c_kn,f_kn,l_kn_W4⟩:=f3 kn
 obtain ⟨c_kl,f_kl,l_kl_W4⟩:=f3 kl
 obtain ⟨c_kx,f_kx,l_kx_W4⟩:=f3 kx
 go_wp2_with fail
 refine calls_gen fun V4 hV_V4=> ?_
 have n_ka:=hbk hV_V4 (W4.heap.size)
 simp (maxDischargeDepth:=9) only [BK,not_false_eq_true,reduceCtorEq,kt,kn,kl,kx,l_kt_w,l_kt_V,l_kt_W1,l_kt_V1,l_kn_V1,l_kt_W2,l_kn_W2,l_kt_V2,l_kn_V2,l_kl_V2,l_kt_W3,l_kn_W3,l_kl_W3,l_kt_V3,l_kn_V3,l_kl_V3,l_kx_V3,l_kt_W4,l_kn_W4,l_kl_W4,l_kx_W4] at n_ka
 have n_kb:=hbk hV_V4 (W4.heap.size+1)
 simp (maxDischargeDepth:=9) only [BK,not_false_eq_true,reduceCtorEq,kt,kn,kl,kx,l_kt_w,l_kt_V,l_kt_W1,l_kt_V1,l_kn_V1,l_kt_W2,l_kn_W2,l_kt_V2,l_kn_V2,l_kl_V2,l_kt_W3,l_kn_W3,l_kl_W3,l_kt_V3,l_kn_V3,l_kl_V3,l_kx_V3,l_kt_W4,l_kn_W4,l_kl_W4,l_kx_W4] at n_kb
 have o_ka: ¬O (W4.heap.size):=by first|exact hA.new (Nat.le_refl _)|exact hA.new (by omega)
 have o_kb: ¬O (W4.heap.size+1):=by first|exact hA.new (Nat.le_refl _)|exact hA.new (by omega)
 replace kt:=kK hV_V4 kt
 replace kn:=kK hV_V4 kn
 replace kl:=kK hV_V4 kl
 replace kx:=kK hV_V4 kx
 replace hF:Fr ((oneX tb)) O O w V4:=nF hV_V4
 replace hA:AP V4 ap t.s O:=nA hV_V4
 have z_V4:=zS hV_V4
 clear hV_V4 c_kt f_kt c_kn f_kn c_kl f_kl c_kx f_kx
 obtain ⟨c_kt,f_kt,l_kt_V4⟩:=f3 kt
 obtain ⟨c_kn,f_kn,l_kn_V4⟩:=f3 kn
 obtain ⟨c_kl,f_kl,l_kl_V4⟩:=f3 kl
 obtain ⟨c_kx,f_kx,l_kx_V4⟩:=f3 kx
 have ka:=n_ka;clear n_ka
 obtain ⟨c_ka,f_ka,l_ka_V4⟩:=f3 ka
 have kb:=n_kb;clear n_kb
 obtain ⟨c_kb,f_kb,l_kb_V4⟩:=f3 kb
 refine (insert_c l1 c e1 i one H3.out _).mono ?_
 rintro e_W5 W5 ⟨rfl,hb_W5⟩
 replace hA:=hA.below hb_W5
 replace hF:=hF.below hb_W5
 replace kt:=keep_blk hb_W5 kt
 replace kn:=keep_blk hb_W5 kn
 replace kl:=keep_blk hb_W5 kl
 replace kx:=keep_blk hb_W5 kx
 replace ka:=keep_blk hb_W5 ka
 replace kb:=keep_blk hb_W5 kb
 have z_W5:=hb_W5.size
 clear hb_W5 c_kt f_kt c_kn f_kn c_kl f_kl c_kx f_kx c_ka f_ka c_kb f_kb
 obtain ⟨c_kt,f_kt,l_kt_W5⟩:=f3 kt
 obtain ⟨c_kn,f_kn,l_kn_W5⟩:=f3 kn
 obtain ⟨c_kl,f_kl,l_kl_W5⟩:=f3 kl
 obtain ⟨c_kx,f_kx,l_kx_W5⟩:=f3 kx
 obtain ⟨c_ka,f_ka,l_ka_W5⟩:=f3 ka
 obtain ⟨c_kb,f_kb,l_kb_W5⟩:=f3 kb
 go_wp2_with fail
 refine calls_gen fun V5 hV_V5=> ?_
 replace kt:=kK hV_V5 kt
 replace kn:=kK hV_V5 kn
 replace kl:=kK hV_V5 kl
 replace kx:=kK hV_V5 kx
 replace ka:=kK hV_V5 ka
 replace kb:=kK hV_V5 kb
 replace hF:Fr ((oneX tb)) O O w V5:=nF hV_V5
 replace hA:AP V5 ap t.s O:=nA hV_V5
 have z_V5:=zS hV_V5
 clear hV_V5 c_kt f_kt c_kn f_kn c_kl f_kl c_kx f_kx c_ka f_ka c_kb f_kb
 obtain ⟨c_kt,f_kt,l_kt_V5⟩:=f3 kt
 obtain ⟨c_kn,f_kn,l_kn_V5⟩:=f3 kn
 obtain ⟨c_kl,f_kl,l_kl_V5⟩:=f3 kl
 obtain ⟨c_kx,f_kx,l_kx_V5⟩:=f3 kx
 obtain ⟨c_ka,f_ka,l_ka_V5⟩:=f3 ka
 obtain ⟨c_kb,f_kb,l_kb_V5⟩:=f3 kb
 refine (tLeaf_calls c e3 _ ⟨hA,kt,o_kt⟩).mono ?_
 rintro e_W6 W6 ⟨rfl,O1,hT_W6,hf_W6⟩
 have q_kn:=hf_W6.keep kn o_kn (by unfold oneX;omega)
 have q_kl:=hf_W6.keep kl o_kl (by unfold oneX;omega)
 have q_kx:=hf_W6.keep kx o_kx (by unfold oneX;omega)
 have q_ka:=hf_W6.keep ka o_ka (by unfold oneX;omega)
 have q_kb:=hf_W6.keep kb o_kb (by unfold oneX;omega)
 replace o_kn:=hf_W6.not_own (lt_of kn) o_kn
 clear kn;have kn:=q_kn;clear q_kn
 obtain ⟨c_kn,f_kn,l_kn_W6⟩:=f3 kn
 replace o_kl:=hf_W6.not_own (lt_of kl) o_kl
 clear kl;have kl:=q_kl;clear q_kl
 obtain ⟨c_kl,f_kl,l_kl_W6⟩:=f3 kl
 replace o_kx:=hf_W6.not_own (lt_of kx) o_kx
 clear kx;have kx:=q_kx;clear q_kx
 obtain ⟨c_kx,f_kx,l_kx_W6⟩:=f3 kx
 replace o_ka:=hf_W6.not_own (lt_of ka) o_ka
 clear ka;have ka:=q_ka;clear q_ka
 obtain ⟨c_ka,f_ka,l_ka_W6⟩:=f3 ka
 replace o_kb:=hf_W6.not_own (lt_of kb) o_kb
 clear kb;have kb:=q_kb;clear q_kb
 obtain ⟨c_kb,f_kb,l_kb_W6⟩:=f3 kb
 clear kt c_kt f_kt o_kt;have kt:=hT_W6.blk;have o_kt:=hT_W6.no
 obtain ⟨c_kt,f_kt,l_kt_W6⟩:=f3 kt
 replace hF:=hF.trans hf_W6
 have z_W6:=hf_W6.size
 clear hA hf_W6;have hA:=hT_W6.hA;clear hT_W6
 go_wp2_with fail
 refine calls_gen fun V6 hV_V6=> ?_
 replace kt:=kK hV_V6 kt
 replace kn:=kK hV_V6 kn
 replace kl:=kK hV_V6 kl
 replace kx:=kK hV_V6 kx
 replace ka:=kK hV_V6 ka
 replace kb:=kK hV_V6 kb
 replace hF:Fr ((oneX tb)) O O1 w V6:=nF hV_V6
 replace hA:AP V6 ap ((t.leaf c).2).s O1:=nA hV_V6
 have z_V6:=zS hV_V6
 clear hV_V6 c_kt f_kt c_kn f_kn c_kl f_kl c_kx f_kx c_ka f_ka c_kb f_kb
 obtain ⟨c_kt,f_kt,l_kt_V6⟩:=f3 kt
 obtain ⟨c_kn,f_kn,l_kn_V6⟩:=f3 kn
 obtain ⟨c_kl,f_kl,l_kl_V6⟩:=f3 kl
 obtain ⟨c_kx,f_kx,l_kx_V6⟩:=f3 kx
 obtain ⟨c_ka,f_ka,l_ka_V6⟩:=f3 ka
 obtain ⟨c_kb,f_kb,l_kb_V6⟩:=f3 kb
 refine (tLeaf_calls l2 e2 _ ⟨hA,kt,o_kt⟩).mono ?_
 rintro e_W7 W7 ⟨rfl,O2,hT_W7,hf_W7⟩
 have q_kn:=hf_W7.keep kn o_kn (by unfold oneX;omega)
 have q_kl:=hf_W7.keep kl o_kl (by unfold oneX;omega)
 have q_kx:=hf_W7.keep kx o_kx (by unfold oneX;omega)
 have q_ka:=hf_W7.keep ka o_ka (by unfold oneX;omega)
 have q_kb:=hf_W7.keep kb o_kb (by unfold oneX;omega)
 replace o_kn:=hf_W7.not_own (lt_of kn) o_kn
 clear kn;have kn:=q_kn;clear q_kn
 obtain ⟨c_kn,f_kn,l_kn_W7⟩:=f3 kn
 replace o_kl:=hf_W7.not_own (lt_of kl) o_kl
 clear kl;have kl:=q_kl;clear q_kl
 obtain ⟨c_kl,f_kl,l_kl_W7⟩:=f3 kl
 replace o_kx:=hf_W7.not_own (lt_of kx) o_kx
 clear kx;have kx:=q_kx;clear q_kx
 obtain ⟨c_kx,f_kx,l_kx_W7⟩:=f3 kx
 replace o_ka:=hf_W7.not_own (lt_of ka) o_ka
 clear ka;have ka:=q_ka;clear q_ka
 obtain ⟨c_ka,f_ka,l_ka_W7⟩:=f3 ka
 replace o_kb:=hf_W7.not_own (lt_of kb) o_kb
 clear kb;have kb:=q_kb;clear q_kb
 obtain ⟨c_kb,f_kb,l_kb_W7⟩:=f3 kb
 clear kt c_kt f_kt o_kt;have kt:=hT_W7.blk;have o_kt:=hT_W7.no
 obtain ⟨c_kt,f_kt,l_kt_W7⟩:=f3 kt
 replace hF:=hF.trans hf_W7
 have z_W7:=hf_W7.size
 clear hA hf_W7;have hA:=hT_W7.hA;clear hT_W7
 go_wp2_with fail
 refine calls_gen fun V7 hV_V7=> ?_
 replace kt:=kK hV_V7 kt
 replace kn:=kK hV_V7 kn
 replace kl:=kK hV_V7 kl
 replace kx:=kK hV_V7 kx
 replace ka:=kK hV_V7 ka
 replace kb:=kK hV_V7 kb
 replace hF:Fr ((oneX tb)) O O2 w V7:=nF hV_V7
 replace hA:AP V7 ap (((t.leaf c).2.leaf l2).2).s O2:=nA hV_V7
 have z_V7:=zS hV_V7
 clear hV_V7 c_kt f_kt c_kn f_kn c_kl f_kl c_kx f_kx c_ka f_ka c_kb f_kb
 obtain ⟨c_kt,f_kt,l_kt_V7⟩:=f3 kt
 obtain ⟨c_kn,f_kn,l_kn_V7⟩:=f3 kn
 obtain ⟨c_kl,f_kl,l_kl_V7⟩:=f3 kl
 obtain ⟨c_kx,f_kx,l_kx_V7⟩:=f3 kx
 obtain ⟨c_ka,f_ka,l_ka_V7⟩:=f3 ka
 obtain ⟨c_kb,f_kb,l_kb_V7⟩:=f3 kb
 refine (tPairOr_calls _ _ _ ⟨hA,kt,o_kt⟩).mono ?_
 rintro e_W8 W8 ⟨rfl,O3,hT_W8,hf_W8⟩
 have q_kn:=hf_W8.keep kn o_kn (by unfold oneX;omega)
 have q_kl:=hf_W8.keep kl o_kl (by unfold oneX;omega)
 have q_kx:=hf_W8.keep kx o_kx (by unfold oneX;omega)
 have q_ka:=hf_W8.keep ka o_ka (by unfold oneX;omega)
 have q_kb:=hf_W8.keep kb o_kb (by unfold oneX;omega)
 replace o_kn:=hf_W8.not_own (lt_of kn) o_kn
 clear kn;have kn:=q_kn;clear q_kn
 obtain ⟨c_kn,f_kn,l_kn_W8⟩:=f3 kn
 replace o_kl:=hf_W8.not_own (lt_of kl) o_kl
 clear kl;have kl:=q_kl;clear q_kl
 obtain ⟨c_kl,f_kl,l_kl_W8⟩:=f3 kl
 replace o_kx:=hf_W8.not_own (lt_of kx) o_kx
 clear kx;have kx:=q_kx;clear q_kx
 obtain ⟨c_kx,f_kx,l_kx_W8⟩:=f3 kx
 replace o_ka:=hf_W8.not_own (lt_of ka) o_ka
 clear ka;have ka:=q_ka;clear q_ka
 obtain ⟨c_ka,f_ka,l_ka_W8⟩:=f3 ka
 replace o_kb:=hf_W8.not_own (lt_of kb) o_kb
 clear kb;have kb:=q_kb;clear q_kb
 obtain ⟨c_kb,f_kb,l_kb_W8⟩:=f3 kb
 clear kt c_kt f_kt o_kt;have kt:=hT_W8.blk;have o_kt:=hT_W8.no
 obtain ⟨c_kt,f_kt,l_kt_W8⟩:=f3 kt
 replace hF:=hF.trans hf_W8
 have z_W8:=hf_W8.size
 clear hA hf_W8;have hA:=hT_W8.hA;clear hT_W8
 go_wp2_with fail
 go_ret
 rw [two_def]
 exact ⟨rfl,O3,⟨hA,kt,o_kt⟩,hF⟩
set_option maxRecDepth 100000 in
set_option maxHeartbeats 2000000 in
theorem tIns_r (one:Bool) (k:Nat) (h i:Int) (r:Int×Tb) (w:World) (hT:TB w tb ap t O) (h1:bIs t.s h=true) (d1:((t.s.get h).tag==1)=true) (hU:U64 (t.s.get h).a) (d2:insOk (lfOk (t.s.get h).a (wrap64 (t.s.get h).b)) (lfL (t.s.get h).a (wrap64 (t.s.get h).b)) i=false) (l1 l2:List Bool) (H1:Hid (l1=(lfL (t.s.get h).a (wrap64 (t.s.get h).b)).take 32)) (H2:Hid (l2=(lfL (t.s.get h).a (wrap64 (t.s.get h).b)).drop 32)) (e1:l1.length≤64) (e2:l2.length≤64) (d3:decide (i≤(l1.length:Int))=false) (hr:some (t.two l1 (insR true l2 (wrap64 (i - (l1.length:Int))) one))=some r):
  Calls Tryz.prog 110 #[.pointer (some ⟨tb,0,none⟩), .int .i64 h, .int .i64 i, .bool one] w fun e w'=>e= .returned (.int .i64 r.1)∧DidT tb ap r.2 O w w':=by
 obtain ⟨c,H3⟩: ∃c,Hid (c=insR true l2 (wrap64 (i - (l1.length:Int))) one):=⟨_,Lib.hid rfl⟩
 have e3:c.length≤64:=by rw [H3.out];exact insR_le _ _ _ _
 rw [←H3.out] at hr
 obtain rfl:=Option.some.inj hr
 clear hr
 go_enter Tryz.func110,Tryz.ntmps110
 have hA:=hT.hA
 have kt:=hT.blk
 have o_kt:=hT.no
 obtain ⟨c_kt,f_kt,l_kt_w⟩:=f3 kt
 go_wp2_with fail
 refine calls_gen fun V hV_V=> ?_
 replace kt:=kK hV_V kt
 have hF:Fr ((oneX tb)) O O w V:=nF hV_V
 replace hA:AP V ap t.s O:=nA hV_V
 have z_V:=zS hV_V
 clear hV_V c_kt f_kt
 obtain ⟨c_kt,f_kt,l_kt_V⟩:=f3 kt
 refine (bRow_calls _ _ hA).mono ?_
 rintro e_W1 W1 ⟨rfl,hb_W1⟩
 replace hA:=hA.below hb_W1
 replace hF:=hF.below hb_W1
 replace kt:=keep_blk hb_W1 kt
 have z_W1:=hb_W1.size
 clear hb_W1 c_kt f_kt
 obtain ⟨c_kt,f_kt,l_kt_W1⟩:=f3 kt
 unfold Nd.val
 go_wp2_with fail
 refine calls_gen fun V1 hV_V1=> ?_
 have n_kn:=hbk hV_V1 (W1.heap.size)
 simp (maxDischargeDepth:=9) only [BK,not_false_eq_true,reduceCtorEq,kt,l_kt_w,l_kt_V,l_kt_W1] at n_kn
 have o_kn: ¬O (W1.heap.size):=by first|exact hA.new (Nat.le_refl _)|exact hA.new (by omega)
 replace kt:=kK hV_V1 kt
 replace hF:Fr ((oneX tb)) O O w V1:=nF hV_V1
 replace hA:AP V1 ap t.s O:=nA hV_V1
 have z_V1:=zS hV_V1
 clear hV_V1 c_kt f_kt
 obtain ⟨c_kt,f_kt,l_kt_V1⟩:=f3 kt
 have kn:=n_kn;clear n_kn
 obtain ⟨c_kn,f_kn,l_kn_V1⟩:=f3 kn
 refine (bBits_calls (t.s.get h) _).mono ?_
 rintro e_W2 W2 ⟨rfl,hb_W2⟩
 replace hA:=hA.below hb_W2
 replace hF:=hF.below hb_W2
 replace kt:=keep_blk hb_W2 kt
 replace kn:=keep_blk hb_W2 kn
 have z_W2:=hb_W2.size
 clear hb_W2 c_kt f_kt c_kn f_kn
 obtain ⟨c_kt,f_kt,l_kt_W2⟩:=f3 kt
 obtain ⟨c_kn,f_kn,l_kn_W2⟩:=f3 kn
 go_wp2_with fail
 refine calls_gen fun V2 hV_V2=> ?_
 have n_kl:=hbk hV_V2 (W2.heap.size)
 simp (maxDischargeDepth:=9) only [BK,not_false_eq_true,reduceCtorEq,kt,kn,l_kt_w,l_kt_V,l_kt_W1,l_kt_V1,l_kn_V1,l_kt_W2,l_kn_W2] at n_kl
 have o_kl: ¬O (W2.heap.size):=by first|exact hA.new (Nat.le_refl _)|exact hA.new (by omega)
 replace kt:=kK hV_V2 kt
 replace kn:=kK hV_V2 kn
 replace hF:Fr ((oneX tb)) O O w V2:=nF hV_V2
 replace hA:AP V2 ap t.s O:=nA hV_V2
 have z_V2:=zS hV_V2
 clear hV_V2 c_kt f_kt c_kn f_kn
 obtain ⟨c_kt,f_kt,l_kt_V2⟩:=f3 kt
 obtain ⟨c_kn,f_kn,l_kn_V2⟩:=f3 kn
 have kl:=n_kl;clear n_kl
 obtain ⟨c_kl,f_kl,l_kl_V2⟩:=f3 kl
 refine (insert_i hU i one _).mono ?_
 rintro e_W3 W3 ⟨rfl,hb_W3⟩
 replace hA:=hA.below hb_W3
 replace hF:=hF.below hb_W3
 replace kt:=keep_blk hb_W3 kt
 replace kn:=keep_blk hb_W3 kn
 replace kl:=keep_blk hb_W3 kl
 have z_W3:=hb_W3.size
 clear hb_W3 c_kt f_kt c_kn f_kn c_kl f_kl
 obtain ⟨c_kt,f_kt,l_kt_W3⟩:=f3 kt
 obtain ⟨c_kn,f_kn,l_kn_W3⟩:=f3 kn
 obtain ⟨c_kl,f_kl,l_kl_W3⟩:=f3 kl
 go_wp2_with fail
 refine calls_gen fun V3 hV_V3=> ?_
 have n_kx:=hbk hV_V3 (W3.heap.size)
 simp (maxDischargeDepth:=9) only [BK,not_false_eq_true,reduceCtorEq,kt,kn,kl,l_kt_w,l_kt_V,l_kt_W1,l_kt_V1,l_kn_V1,l_kt_W2,l_kn_W2,l_kt_V2,l_kn_V2,l_kl_V2,l_kt_W3,l_kn_W3,l_kl_W3] at n_kx
 have o_kx: ¬O (W3.heap.size):=by first|exact hA.new (Nat.le_refl _)|exact hA.new (by omega)
 replace kt:=kK hV_V3 kt
 replace kn:=kK hV_V3 kn
 replace kl:=kK hV_V3 kl
 replace hF:Fr ((oneX tb)) O O w V3:=nF hV_V3
 replace hA:AP V3 ap t.s O:=nA hV_V3
 have z_V3:=zS hV_V3
 clear hV_V3 c_kt f_kt c_kn f_kn c_kl f_kl
 obtain ⟨c_kt,f_kt,l_kt_V3⟩:=f3 kt
 obtain ⟨c_kn,f_kn,l_kn_V3⟩:=f3 kn
 obtain ⟨c_kl,f_kl,l_kl_V3⟩:=f3 kl
 have kx:=n_kx;clear n_kx
 obtain ⟨c_kx,f_kx,l_kx_V3⟩:=f3 kx
 refine (split_32 hU l1 l2 H1.out H2.out _).mono ?_
 rintro e_W4 W4 ⟨rfl,hb_W4⟩
 replace hA:=hA.below hb_W4
 replace hF:=hF.below hb_W4
 replace kt:=keep_blk hb_W4 kt
 replace kn:=keep_blk hb_W4 kn
 replace kl:=keep_blk hb_W4 kl
 replace kx:=keep_blk hb_W4 kx
 have z_W4:=hb_W4.size
 clear hb_W4 c_kt f_kt c_kn f_kn c_kl f_kl c_kx f_kx
 obtain ⟨c_kt,f_kt,l_kt_W4⟩:=f3 kt
 obtain ⟨c_kn,f_kn,l_kn_W4⟩:=f3 kn
 obtain ⟨c_kl,f_kl,l_kl_W4⟩:=f3 kl
 obtain ⟨c_kx,f_kx,l_kx_W4⟩:=f3 kx
 go_wp2_with fail
 refine calls_gen fun V4 hV_V4=> ?_
 have n_ka:=hbk hV_V4 (W4.heap.size)
 simp (maxDischargeDepth:=9) only [BK,not_false_eq_true,reduceCtorEq,kt,kn,kl,kx,l_kt_w,l_kt_V,l_kt_W1,l_kt_V1,l_kn_V1,l_kt_W2,l_kn_W2,l_kt_V2,l_kn_V2,l_kl_V2,l_kt_W3,l_kn_W3,l_kl_W3,l_kt_V3,l_kn_V3,l_kl_V3,l_kx_V3,l_kt_W4,l_kn_W4,l_kl_W4,l_kx_W4] at n_ka
 have n_kb:=hbk hV_V4 (W4.heap.size+1)
 simp (maxDischargeDepth:=9) only [BK,not_false_eq_true,reduceCtorEq,kt,kn,kl,kx,l_kt_w,l_kt_V,l_kt_W1,l_kt_V1,l_kn_V1,l_kt_W2,l_kn_W2,l_kt_V2,l_kn_V2,l_kl_V2,l_kt_W3,l_kn_W3,l_kl_W3,l_kt_V3,l_kn_V3,l_kl_V3,l_kx_V3,l_kt_W4,l_kn_W4,l_kl_W4,l_kx_W4] at n_kb
 have o_ka: ¬O (W4.heap.size):=by first|exact hA.new (Nat.le_refl _)|exact hA.new (by omega)
 have o_kb: ¬O (W4.heap.size+1):=by first|exact hA.new (Nat.le_refl _)|exact hA.new (by omega)
 replace kt:=kK hV_V4 kt
 replace kn:=kK hV_V4 kn
 replace kl:=kK hV_V4 kl
 replace kx:=kK hV_V4 kx
 replace hF:Fr ((oneX tb)) O O w V4:=nF hV_V4
 replace hA:AP V4 ap t.s O:=nA hV_V4
 have z_V4:=zS hV_V4
 clear hV_V4 c_kt f_kt c_kn f_kn c_kl f_kl c_kx f_kx
 obtain ⟨c_kt,f_kt,l_kt_V4⟩:=f3 kt
 obtain ⟨c_kn,f_kn,l_kn_V4⟩:=f3 kn
 obtain ⟨c_kl,f_kl,l_kl_V4⟩:=f3 kl
 obtain ⟨c_kx,f_kx,l_kx_V4⟩:=f3 kx
 have ka:=n_ka;clear n_ka
 obtain ⟨c_ka,f_ka,l_ka_V4⟩:=f3 ka
 have kb:=n_kb;clear n_kb
 obtain ⟨c_kb,f_kb,l_kb_V4⟩:=f3 kb
 refine (insert_c l2 c e2 (wrap64 (i - (l1.length:Int))) one H3.out _).mono ?_
 rintro e_W5 W5 ⟨rfl,hb_W5⟩
 replace hA:=hA.below hb_W5
 replace hF:=hF.below hb_W5
 replace kt:=keep_blk hb_W5 kt
 replace kn:=keep_blk hb_W5 kn
 replace kl:=keep_blk hb_W5 kl
 replace kx:=keep_blk hb_W5 kx
 replace ka:=keep_blk hb_W5 ka
 replace kb:=keep_blk hb_W5 kb
 have z_W5:=hb_W5.size
 clear hb_W5 c_kt f_kt c_kn f_kn c_kl f_kl c_kx f_kx c_ka f_ka c_kb f_kb
 obtain ⟨c_kt,f_kt,l_kt_W5⟩:=f3 kt
 obtain ⟨c_kn,f_kn,l_kn_W5⟩:=f3 kn
 obtain ⟨c_kl,f_kl,l_kl_W5⟩:=f3 kl
 obtain ⟨c_kx,f_kx,l_kx_W5⟩:=f3 kx
 obtain ⟨c_ka,f_ka,l_ka_W5⟩:=f3 ka
 obtain ⟨c_kb,f_kb,l_kb_W5⟩:=f3 kb
 go_wp2_with fail
 refine calls_gen fun V5 hV_V5=> ?_
 replace kt:=kK hV_V5 kt
 replace kn:=kK hV_V5 kn
 replace kl:=kK hV_V5 kl
 replace kx:=kK hV_V5 kx
 replace ka:=kK hV_V5 ka
 replace kb:=kK hV_V5 kb
 replace hF:Fr ((oneX tb)) O O w V5:=nF hV_V5
 replace hA:AP V5 ap t.s O:=nA hV_V5
 have z_V5:=zS hV_V5
 clear hV_V5 c_kt f_kt c_kn f_kn c_kl f_kl c_kx f_kx c_ka f_ka c_kb f_kb
 obtain ⟨c_kt,f_kt,l_kt_V5⟩:=f3 kt
 obtain ⟨c_kn,f_kn,l_kn_V5⟩:=f3 kn
 obtain ⟨c_kl,f_kl,l_kl_V5⟩:=f3 kl
 obtain ⟨c_kx,f_kx,l_kx_V5⟩:=f3 kx
 obtain ⟨c_ka,f_ka,l_ka_V5⟩:=f3 ka
 obtain ⟨c_kb,f_kb,l_kb_V5⟩:=f3 kb
 refine (tLeaf_calls l1 e1 _ ⟨hA,kt,o_kt⟩).mono ?_
 rintro e_W6 W6 ⟨rfl,O1,hT_W6,hf_W6⟩
 have q_kn:=hf_W6.keep kn o_kn (by unfold oneX;omega)
 have q_kl:=hf_W6.keep kl o_kl (by unfold oneX;omega)
 have q_kx:=hf_W6.keep kx o_kx (by unfold oneX;omega)
 have q_ka:=hf_W6.keep ka o_ka (by unfold oneX;omega)
 have q_kb:=hf_W6.keep kb o_kb (by unfold oneX;omega)
 replace o_kn:=hf_W6.not_own (lt_of kn) o_kn
 clear kn;have kn:=q_kn;clear q_kn
 obtain ⟨c_kn,f_kn,l_kn_W6⟩:=f3 kn
 replace o_kl:=hf_W6.not_own (lt_of kl) o_kl
 clear kl;have kl:=q_kl;clear q_kl
 obtain ⟨c_kl,f_kl,l_kl_W6⟩:=f3 kl
 replace o_kx:=hf_W6.not_own (lt_of kx) o_kx
 clear kx;have kx:=q_kx;clear q_kx
 obtain ⟨c_kx,f_kx,l_kx_W6⟩:=f3 kx
 replace o_ka:=hf_W6.not_own (lt_of ka) o_ka
 clear ka;have ka:=q_ka;clear q_ka
 obtain ⟨c_ka,f_ka,l_ka_W6⟩:=f3 ka
 replace o_kb:=hf_W6.not_own (lt_of kb) o_kb
 clear kb;have kb:=q_kb;clear q_kb
 obtain ⟨c_kb,f_kb,l_kb_W6⟩:=f3 kb
 clear kt c_kt f_kt o_kt;have kt:=hT_W6.blk;have o_kt:=hT_W6.no
 obtain ⟨c_kt,f_kt,l_kt_W6⟩:=f3 kt
 replace hF:=hF.trans hf_W6
 have z_W6:=hf_W6.size
 clear hA hf_W6;have hA:=hT_W6.hA;clear hT_W6
 go_wp2_with fail
 refine calls_gen fun V6 hV_V6=> ?_
 replace kt:=kK hV_V6 kt
 replace kn:=kK hV_V6 kn
 replace kl:=kK hV_V6 kl
 replace kx:=kK hV_V6 kx
 replace ka:=kK hV_V6 ka
 replace kb:=kK hV_V6 kb
 replace hF:Fr ((oneX tb)) O O1 w V6:=nF hV_V6
 replace hA:AP V6 ap ((t.leaf l1).2).s O1:=nA hV_V6
 have z_V6:=zS hV_V6
 clear hV_V6 c_kt f_kt c_kn f_kn c_kl f_kl c_kx f_kx c_ka f_ka c_kb f_kb
 obtain ⟨c_kt,f_kt,l_kt_V6⟩:=f3 kt
 obtain ⟨c_kn,f_kn,l_kn_V6⟩:=f3 kn
 obtain ⟨c_kl,f_kl,l_kl_V6⟩:=f3 kl
 obtain ⟨c_kx,f_kx,l_kx_V6⟩:=f3 kx
 obtain ⟨c_ka,f_ka,l_ka_V6⟩:=f3 ka
 obtain ⟨c_kb,f_kb,l_kb_V6⟩:=f3 kb
 refine (tLeaf_calls c e3 _ ⟨hA,kt,o_kt⟩).mono ?_
 rintro e_W7 W7 ⟨rfl,O2,hT_W7,hf_W7⟩
 have q_kn:=hf_W7.keep kn o_kn (by unfold oneX;omega)
 have q_kl:=hf_W7.keep kl o_kl (by unfold oneX;omega)
 have q_kx:=hf_W7.keep kx o_kx (by unfold oneX;omega)
 have q_ka:=hf_W7.keep ka o_ka (by unfold oneX;omega)
 have q_kb:=hf_W7.keep kb o_kb (by unfold oneX;omega)
 replace o_kn:=hf_W7.not_own (lt_of kn) o_kn
 clear kn;have kn:=q_kn;clear q_kn
 obtain ⟨c_kn,f_kn,l_kn_W7⟩:=f3 kn
 replace o_kl:=hf_W7.not_own (lt_of kl) o_kl
 clear kl;have kl:=q_kl;clear q_kl
 obtain ⟨c_kl,f_kl,l_kl_W7⟩:=f3 kl
 replace o_kx:=hf_W7.not_own (lt_of kx) o_kx
 clear kx;have kx:=q_kx;clear q_kx
 obtain ⟨c_kx,f_kx,l_kx_W7⟩:=f3 kx
 replace o_ka:=hf_W7.not_own (lt_of ka) o_ka
 clear ka;have ka:=q_ka;clear q_ka
 obtain ⟨c_ka,f_ka,l_ka_W7⟩:=f3 ka
 replace o_kb:=hf_W7.not_own (lt_of kb) o_kb
 clear kb;have kb:=q_kb;clear q_kb
 obtain ⟨c_kb,f_kb,l_kb_W7⟩:=f3 kb
 clear kt c_kt f_kt o_kt;have kt:=hT_W7.blk;have o_kt:=hT_W7.no
 obtain ⟨c_kt,f_kt,l_kt_W7⟩:=f3 kt
 replace hF:=hF.trans hf_W7
 have z_W7:=hf_W7.size
 clear hA hf_W7;have hA:=hT_W7.hA;clear hT_W7
 go_wp2_with fail
 refine calls_gen fun V7 hV_V7=> ?_
 replace kt:=kK hV_V7 kt
 replace kn:=kK hV_V7 kn
 replace kl:=kK hV_V7 kl
 replace kx:=kK hV_V7 kx
 replace ka:=kK hV_V7 ka
 replace kb:=kK hV_V7 kb
 replace hF:Fr ((oneX tb)) O O2 w V7:=nF hV_V7
 replace hA:AP V7 ap (((t.leaf l1).2.leaf c).2).s O2:=nA hV_V7
 have z_V7:=zS hV_V7
 clear hV_V7 c_kt f_kt c_kn f_kn c_kl f_kl c_kx f_kx c_ka f_ka c_kb f_kb
 obtain ⟨c_kt,f_kt,l_kt_V7⟩:=f3 kt
 obtain ⟨c_kn,f_kn,l_kn_V7⟩:=f3 kn
 obtain ⟨c_kl,f_kl,l_kl_V7⟩:=f3 kl
 obtain ⟨c_kx,f_kx,l_kx_V7⟩:=f3 kx
 obtain ⟨c_ka,f_ka,l_ka_V7⟩:=f3 ka
 obtain ⟨c_kb,f_kb,l_kb_V7⟩:=f3 kb
 refine (tPairOr_calls _ _ _ ⟨hA,kt,o_kt⟩).mono ?_
 rintro e_W8 W8 ⟨rfl,O3,hT_W8,hf_W8⟩
 have q_kn:=hf_W8.keep kn o_kn (by unfold oneX;omega)
 have q_kl:=hf_W8.keep kl o_kl (by unfold oneX;omega)
 have q_kx:=hf_W8.keep kx o_kx (by unfold oneX;omega)
 have q_ka:=hf_W8.keep ka o_ka (by unfold oneX;omega)
 have q_kb:=hf_W8.keep kb o_kb (by unfold oneX;omega)
 replace o_kn:=hf_W8.not_own (lt_of kn) o_kn
 clear kn;have kn:=q_kn;clear q_kn
 obtain ⟨c_kn,f_kn,l_kn_W8⟩:=f3 kn
 replace o_kl:=hf_W8.not_own (lt_of kl) o_kl
 clear kl;have kl:=q_kl;clear q_kl
 obtain ⟨c_kl,f_kl,l_kl_W8⟩:=f3 kl
 replace o_kx:=hf_W8.not_own (lt_of kx) o_kx
 clear kx;have kx:=q_kx;clear q_kx
 obtain ⟨c_kx,f_kx,l_kx_W8⟩:=f3 kx
 replace o_ka:=hf_W8.not_own (lt_of ka) o_ka
 clear ka;have ka:=q_ka;clear q_ka
 obtain ⟨c_ka,f_ka,l_ka_W8⟩:=f3 ka
 replace o_kb:=hf_W8.not_own (lt_of kb) o_kb
 clear kb;have kb:=q_kb;clear q_kb
 obtain ⟨c_kb,f_kb,l_kb_W8⟩:=f3 kb
 clear kt c_kt f_kt o_kt;have kt:=hT_W8.blk;have o_kt:=hT_W8.no
 obtain ⟨c_kt,f_kt,l_kt_W8⟩:=f3 kt
 replace hF:=hF.trans hf_W8
 have z_W8:=hf_W8.size
 clear hA hf_W8;have hA:=hT_W8.hA;clear hT_W8
 go_wp2_with fail
 go_ret
 rw [two_def]
 exact ⟨rfl,O3,⟨hA,kt,o_kt⟩,hF⟩
set_option maxRecDepth 100000 in
set_option maxHeartbeats 2000000 in
theorem tIns_high (one:Bool) (k:Nat) (h i:Int) (r:Int×Tb) (w:World) (hT:TB w tb ap t O) (ih:Hid (∀(t:Tb) (O:Nat→Prop) (h i:Int) (r:Int×Tb) (w:World),Tb.insert k t h i one=some r→TB w tb ap t O→Calls Tryz.prog 110 #[.pointer (some ⟨tb,0,none⟩), .int .i64 h, .int .i64 i, .bool one] w fun e w'=>e= .returned (.int .i64 r.1)∧DidT tb ap r.2 O w w')) (h1:bIs t.s h=true) (d1:((t.s.get h).tag==1)=false) (d2:decide (bLen t.s (t.s.get h).k0<i)=true) (hr:(((t.keep (t.s.get h).k0).insert k (t.s.get h).k1 (wrap64 (i - bLen t.s (t.s.get h).k0)) one).bind fun r=>r.2.fork (t.s.get h).k0 r.1)=some r):
  Calls Tryz.prog 110 #[.pointer (some ⟨tb,0,none⟩), .int .i64 h, .int .i64 i, .bool one] w fun e w'=>e= .returned (.int .i64 r.1)∧DidT tb ap r.2 O w w':=by
 obtain ⟨u,h_b,h_r⟩:=Option.bind_eq_some_iff.1 hr
 have Hu:=Lib.hid h_b;clear h_b hr;have hr:=h_r;clear h_r
 have Hr:=Lib.hid hr;clear hr
 go_enter Tryz.func110,Tryz.ntmps110
 have hA:=hT.hA
 have kt:=hT.blk
 have o_kt:=hT.no
 obtain ⟨c_kt,f_kt,l_kt_w⟩:=f3 kt
 go_wp2_with fail
 refine calls_gen fun V hV_V=> ?_
 replace kt:=kK hV_V kt
 have hF:Fr ((oneX tb)) O O w V:=nF hV_V
 replace hA:AP V ap t.s O:=nA hV_V
 have z_V:=zS hV_V
 clear hV_V c_kt f_kt
 obtain ⟨c_kt,f_kt,l_kt_V⟩:=f3 kt
 refine (bRow_calls _ _ hA).mono ?_
 rintro e_W1 W1 ⟨rfl,hb_W1⟩
 replace hA:=hA.below hb_W1
 replace hF:=hF.below hb_W1
 replace kt:=keep_blk hb_W1 kt
 have z_W1:=hb_W1.size
 clear hb_W1 c_kt f_kt
 obtain ⟨c_kt,f_kt,l_kt_W1⟩:=f3 kt
 unfold Nd.val
 go_wp2_with fail
 refine wp_gen fun V1 hV_V1=> ?_
 have n_kn:=hbk hV_V1 (W1.heap.size)
 simp (maxDischargeDepth:=9) only [BK,not_false_eq_true,reduceCtorEq,kt,l_kt_w,l_kt_V,l_kt_W1] at n_kn
 have o_kn: ¬O (W1.heap.size):=by first|exact hA.new (Nat.le_refl _)|exact hA.new (by omega)
 replace kt:=kK hV_V1 kt
 replace hF:Fr ((oneX tb)) O O w V1:=nF hV_V1
 replace hA:AP V1 ap t.s O:=nA hV_V1
 have z_V1:=zS hV_V1
 clear hV_V1 c_kt f_kt
 obtain ⟨c_kt,f_kt,l_kt_V1⟩:=f3 kt
 have kn:=n_kn;clear n_kn
 obtain ⟨c_kn,f_kn,l_kn_V1⟩:=f3 kn
 refine wp_region_noPanic ?_
 refine wp_region_held_drew (S:=fun v=>(∀o,v.cell? ⟨tb,o,none⟩=V1.cell? ⟨tb,o,none⟩)∧(∀o,v.cell? ⟨W1.heap.size,o,none⟩=V1.cell? ⟨W1.heap.size,o,none⟩)∧(V1.heap.size≤v.heap.size)∧AP v ap t.s O) (by kernel_rfl) ⟨(fun _=>rfl),(fun _=>rfl),(Nat.le_refl _),hA.drew⟩ (fun hHeld=> ?_)
 generalize hV_V1d:V1.drew=V1d at hHeld⊢
 have d_kt:=dK hV_V1d kt
 have d_kn:=dK hV_V1d kn
 clear c_kt f_kt c_kn f_kn
 replace hA:=hA.drew;rw [hV_V1d] at hA
 replace hF:=hF.drew;rw [hV_V1d] at hF
 have z_V1d:=dZ hV_V1d
 have v_kt:=cells_of kt
 have v_kn:=cells_of kn
 clear kt;have kt:=d_kt;clear d_kt
 clear kn;have kn:=d_kn;clear d_kn
 obtain ⟨c_kt,f_kt,l_kt_V1d⟩:=f3 kt
 obtain ⟨c_kn,f_kn,l_kn_V1d⟩:=f3 kn
 clear hV_V1d
 refine tz 0 rfl hHeld ?_
 try simp only [PT]
 refine tz 1 rfl hHeld ?_
 try simp only [PT]
 refine tz 2 rfl hHeld ?_
 try simp only [PT]
 refine tz 3 rfl hHeld ?_
 try simp only [PT]
 refine tz 4 rfl hHeld ?_
 try simp only [PT]
 refine tz 5 rfl hHeld ?_
 try simp only [PT]
 refine tz 6 rfl hHeld ?_
 try simp only [PT]
 refine rd 7 rfl fun K hK=> ?_
 go_simp
 try simp only [IntWalk.i64_left]
 refine (bLen_calls _ _ hA).mono ?_
 rintro e_W2 W2 ⟨rfl,hb_W2⟩
 replace hA:=hA.below hb_W2
 replace hF:=hF.below hb_W2
 replace kt:=keep_blk hb_W2 kt
 replace kn:=keep_blk hb_W2 kn
 have z_W2:=hb_W2.size
 clear hb_W2 c_kt f_kt c_kn f_kn
 obtain ⟨c_kt,f_kt,l_kt_W2⟩:=f3 kt
 obtain ⟨c_kn,f_kn,l_kn_W2⟩:=f3 kn
 refine hK.out _ _ ⟨(fun o=>(c_kt o).trans (v_kt o).symm),(fun o=>(c_kn o).trans (v_kn o).symm),(by omega),hA⟩ (fun hHeld=> ?_)
 clear hK K
 try simp only [PT]
 refine rd 8 rfl fun K hK=> ?_
 go_simp
 refine hK.out _ _ hHeld (fun hHeld=> ?_)
 clear hK K
 try simp only [PT]
 refine wpAnyH_done (by kernel_rfl) ?_ _
 refine NoPanic.normal ?_
 go_wp2_with fail
 refine wp_gen fun V2 hV_V2=> ?_
 replace kt:=kK hV_V2 kt
 replace kn:=kK hV_V2 kn
 replace hF:Fr ((oneX tb)) O O w V2:=nF hV_V2
 replace hA:AP V2 ap t.s O:=nA hV_V2
 have z_V2:=zS hV_V2
 clear hV_V2 c_kt f_kt c_kn f_kn
 obtain ⟨c_kt,f_kt,l_kt_V2⟩:=f3 kt
 obtain ⟨c_kn,f_kn,l_kn_V2⟩:=f3 kn
 refine wp_region_noPanic ?_
 refine wp_region_held_drew (S:=fun v=>(v.cell? ⟨tb,0,none⟩=V2.cell? ⟨tb,0,none⟩)∧(∀o,v.cell? ⟨W1.heap.size,o,none⟩=V2.cell? ⟨W1.heap.size,o,none⟩)∧(V2.heap.size≤v.heap.size)∧True) (by kernel_rfl) ⟨rfl,(fun _=>rfl),(Nat.le_refl _),trivial⟩ (fun hHeld=> ?_)
 generalize hV_V2d:V2.drew=V2d at hHeld⊢
 have d_kt:=dK hV_V2d kt
 have d_kn:=dK hV_V2d kn
 clear c_kt f_kt c_kn f_kn
 replace hA:=hA.drew;rw [hV_V2d] at hA
 replace hF:=hF.drew;rw [hV_V2d] at hF
 have z_V2d:=dZ hV_V2d
 have v_kt:=cells_of kt
 have v_kn:=cells_of kn
 clear kt;have kt:=d_kt;clear d_kt
 clear kn;have kn:=d_kn;clear d_kn
 obtain ⟨c_kt,f_kt,l_kt_V2d⟩:=f3 kt
 obtain ⟨c_kn,f_kn,l_kn_V2d⟩:=f3 kn
 clear hV_V2d
 refine tz 0 rfl hHeld ?_
 try simp only [PT]
 refine tz 1 rfl hHeld ?_
 try simp only [PT]
 refine tz 2 rfl hHeld ?_
 try simp only [PT]
 refine tz 3 rfl hHeld ?_
 try simp only [PT]
 refine tz 4 rfl hHeld ?_
 try simp only [PT]
 refine tz 6 rfl hHeld ?_
 try simp only [PT]
 refine tz 7 rfl hHeld ?_
 try simp only [PT]
 refine tz 8 rfl hHeld ?_
 try simp only [PT]
 refine tz 9 rfl hHeld ?_
 try simp only [PT]
 refine tz 10 rfl hHeld ?_
 try simp only [PT]
 refine tz 11 rfl hHeld ?_
 try simp only [PT]
 refine tz 12 rfl hHeld ?_
 try simp only [PT]
 refine tz 13 rfl hHeld ?_
 try simp only [PT]
 refine rd 5 rfl fun K hK=> ?_
 go_simp
 try simp only [IntWalk.i64_left]
 refine (tKeep_calls (t:=t) (t.s.get h).k0 _ ⟨hA,kt,o_kt⟩).mono ?_
 rintro e_W3 W3 ⟨rfl,O1,hT_W3,hf_W3⟩
 have q_kn:=hf_W3.keep kn o_kn (by unfold oneX;omega)
 replace o_kn:=hf_W3.not_own (lt_of kn) o_kn
 clear kn;have kn:=q_kn;clear q_kn
 obtain ⟨c_kn,f_kn,l_kn_W3⟩:=f3 kn
 clear kt c_kt f_kt o_kt;have kt:=hT_W3.blk;have o_kt:=hT_W3.no
 obtain ⟨c_kt,f_kt,l_kt_W3⟩:=f3 kt
 replace hF:=hF.trans hf_W3
 have z_W3:=hf_W3.size
 clear hA hf_W3;have hA:=hT_W3.hA;clear hT_W3
 refine hK.out _ _ ⟨((c_kt 0).trans (v_kt 0).symm),(fun o=>(c_kn o).trans (v_kn o).symm),(by omega),trivial⟩ (fun hHeld=> ?_)
 clear hK K
 try simp only [PT]
 refine rd 14 rfl fun K hK=> ?_
 go_simp
 try simp only [IntWalk.i64_left]
 refine (ih.out (t.keep (t.s.get h).k0) _ _ _ _ _ Hu.out ⟨hA,kt,o_kt⟩).mono ?_
 rintro e_W4 W4 ⟨rfl,O2,hT_W4,hf_W4⟩
 have q_kn:=hf_W4.keep kn o_kn (by unfold oneX;omega)
 replace o_kn:=hf_W4.not_own (lt_of kn) o_kn
 clear kn;have kn:=q_kn;clear q_kn
 obtain ⟨c_kn,f_kn,l_kn_W4⟩:=f3 kn
 clear kt c_kt f_kt o_kt;have kt:=hT_W4.blk;have o_kt:=hT_W4.no
 obtain ⟨c_kt,f_kt,l_kt_W4⟩:=f3 kt
 replace hF:=hF.trans hf_W4
 have z_W4:=hf_W4.size
 clear hA hf_W4;have hA:=hT_W4.hA;clear hT_W4
 refine hK.out _ _ ⟨((c_kt 0).trans (v_kt 0).symm),(fun o=>(c_kn o).trans (v_kn o).symm),(by omega),trivial⟩ (fun hHeld=> ?_)
 clear hK K
 try simp only [PT]
 refine rd 15 rfl fun K hK=> ?_
 go_simp
 try simp only [IntWalk.i64_left]
 refine (tFork_calls (t:=u.2) _ _ _ Hr.out _ ⟨hA,kt,o_kt⟩).mono ?_
 rintro e_W5 W5 ⟨rfl,O3,hT_W5,hf_W5⟩
 have q_kn:=hf_W5.keep kn o_kn (by unfold oneX;omega)
 replace o_kn:=hf_W5.not_own (lt_of kn) o_kn
 clear kn;have kn:=q_kn;clear q_kn
 obtain ⟨c_kn,f_kn,l_kn_W5⟩:=f3 kn
 clear kt c_kt f_kt o_kt;have kt:=hT_W5.blk;have o_kt:=hT_W5.no
 obtain ⟨c_kt,f_kt,l_kt_W5⟩:=f3 kt
 replace hF:=hF.trans hf_W5
 have z_W5:=hf_W5.size
 clear hA hf_W5;have hA:=hT_W5.hA;clear hT_W5
 refine hK.out _ _ ⟨((c_kt 0).trans (v_kt 0).symm),(fun o=>(c_kn o).trans (v_kn o).symm),(by omega),trivial⟩ (fun hHeld=> ?_)
 clear hK K
 try simp only [PT]
 refine rd 16 rfl fun K hK=> ?_
 go_simp
 refine hK.out _ _ hHeld (fun hHeld=> ?_)
 clear hK K
 try simp only [PT]
 refine wpAnyH_done (by kernel_rfl) ?_ _
 refine NoPanic.normal ?_
 go_wp2_with fail
 go_ret
 exact ⟨rfl,O3,⟨hA,kt,o_kt⟩,hF⟩
set_option maxRecDepth 100000 in
set_option maxHeartbeats 2000000 in
theorem tIns_low (one:Bool) (k:Nat) (h i:Int) (r:Int×Tb) (w:World) (hT:TB w tb ap t O) (ih:Hid (∀(t:Tb) (O:Nat→Prop) (h i:Int) (r:Int×Tb) (w:World),Tb.insert k t h i one=some r→TB w tb ap t O→Calls Tryz.prog 110 #[.pointer (some ⟨tb,0,none⟩), .int .i64 h, .int .i64 i, .bool one] w fun e w'=>e= .returned (.int .i64 r.1)∧DidT tb ap r.2 O w w')) (h1:bIs t.s h=true) (d1:((t.s.get h).tag==1)=false) (d2:decide (bLen t.s (t.s.get h).k0<i)=false) (hr:((t.insert k (t.s.get h).k0 i one).bind fun r=>(r.2.keep (t.s.get h).k1).fork r.1 (t.s.get h).k1)=some r):
  Calls Tryz.prog 110 #[.pointer (some ⟨tb,0,none⟩), .int .i64 h, .int .i64 i, .bool one] w fun e w'=>e= .returned (.int .i64 r.1)∧DidT tb ap r.2 O w w':=by
 obtain ⟨u,h_b,h_r⟩:=Option.bind_eq_some_iff.1 hr
 have Hu:=Lib.hid h_b;clear h_b hr;have hr:=h_r;clear h_r
 have Hr:=Lib.hid hr;clear hr
 go_enter Tryz.func110,Tryz.ntmps110
 have hA:=hT.hA
 have kt:=hT.blk
 have o_kt:=hT.no
 obtain ⟨c_kt,f_kt,l_kt_w⟩:=f3 kt
 go_wp2_with fail
 refine calls_gen fun V hV_V=> ?_
 replace kt:=kK hV_V kt
 have hF:Fr ((oneX tb)) O O w V:=nF hV_V
 replace hA:AP V ap t.s O:=nA hV_V
 have z_V:=zS hV_V
 clear hV_V c_kt f_kt
 obtain ⟨c_kt,f_kt,l_kt_V⟩:=f3 kt
 refine (bRow_calls _ _ hA).mono ?_
 rintro e_W1 W1 ⟨rfl,hb_W1⟩
 replace hA:=hA.below hb_W1
 replace hF:=hF.below hb_W1
 replace kt:=keep_blk hb_W1 kt
 have z_W1:=hb_W1.size
 clear hb_W1 c_kt f_kt
 obtain ⟨c_kt,f_kt,l_kt_W1⟩:=f3 kt
 unfold Nd.val
 go_wp2_with fail
 refine wp_gen fun V1 hV_V1=> ?_
 have n_kn:=hbk hV_V1 (W1.heap.size)
 simp (maxDischargeDepth:=9) only [BK,not_false_eq_true,reduceCtorEq,kt,l_kt_w,l_kt_V,l_kt_W1] at n_kn
 have o_kn: ¬O (W1.heap.size):=by first|exact hA.new (Nat.le_refl _)|exact hA.new (by omega)
 replace kt:=kK hV_V1 kt
 replace hF:Fr ((oneX tb)) O O w V1:=nF hV_V1
 replace hA:AP V1 ap t.s O:=nA hV_V1
 have z_V1:=zS hV_V1
 clear hV_V1 c_kt f_kt
 obtain ⟨c_kt,f_kt,l_kt_V1⟩:=f3 kt
 have kn:=n_kn;clear n_kn
 obtain ⟨c_kn,f_kn,l_kn_V1⟩:=f3 kn
 refine wp_region_noPanic ?_
 refine wp_region_held_drew (S:=fun v=>(∀o,v.cell? ⟨tb,o,none⟩=V1.cell? ⟨tb,o,none⟩)∧(∀o,v.cell? ⟨W1.heap.size,o,none⟩=V1.cell? ⟨W1.heap.size,o,none⟩)∧(V1.heap.size≤v.heap.size)∧AP v ap t.s O) (by kernel_rfl) ⟨(fun _=>rfl),(fun _=>rfl),(Nat.le_refl _),hA.drew⟩ (fun hHeld=> ?_)
 generalize hV_V1d:V1.drew=V1d at hHeld⊢
 have d_kt:=dK hV_V1d kt
 have d_kn:=dK hV_V1d kn
 clear c_kt f_kt c_kn f_kn
 replace hA:=hA.drew;rw [hV_V1d] at hA
 replace hF:=hF.drew;rw [hV_V1d] at hF
 have z_V1d:=dZ hV_V1d
 have v_kt:=cells_of kt
 have v_kn:=cells_of kn
 clear kt;have kt:=d_kt;clear d_kt
 clear kn;have kn:=d_kn;clear d_kn
 obtain ⟨c_kt,f_kt,l_kt_V1d⟩:=f3 kt
 obtain ⟨c_kn,f_kn,l_kn_V1d⟩:=f3 kn
 clear hV_V1d
 refine tz 0 rfl hHeld ?_
 try simp only [PT]
 refine tz 1 rfl hHeld ?_
 try simp only [PT]
 refine tz 2 rfl hHeld ?_
 try simp only [PT]
 refine tz 3 rfl hHeld ?_
 try simp only [PT]
 refine tz 4 rfl hHeld ?_
 try simp only [PT]
 refine tz 5 rfl hHeld ?_
 try simp only [PT]
 refine tz 6 rfl hHeld ?_
 try simp only [PT]
 refine rd 7 rfl fun K hK=> ?_
 go_simp
 try simp only [IntWalk.i64_left]
 refine (bLen_calls _ _ hA).mono ?_
 rintro e_W2 W2 ⟨rfl,hb_W2⟩
 replace hA:=hA.below hb_W2
 replace hF:=hF.below hb_W2
 replace kt:=keep_blk hb_W2 kt
 replace kn:=keep_blk hb_W2 kn
 have z_W2:=hb_W2.size
 clear hb_W2 c_kt f_kt c_kn f_kn
 obtain ⟨c_kt,f_kt,l_kt_W2⟩:=f3 kt
 obtain ⟨c_kn,f_kn,l_kn_W2⟩:=f3 kn
 refine hK.out _ _ ⟨(fun o=>(c_kt o).trans (v_kt o).symm),(fun o=>(c_kn o).trans (v_kn o).symm),(by omega),hA⟩ (fun hHeld=> ?_)
 clear hK K
 try simp only [PT]
 refine rd 8 rfl fun K hK=> ?_
 go_simp
 refine hK.out _ _ hHeld (fun hHeld=> ?_)
 clear hK K
 try simp only [PT]
 refine wpAnyH_done (by kernel_rfl) ?_ _
 refine NoPanic.normal ?_
 go_wp2_with fail
 refine wp_gen fun V2 hV_V2=> ?_
 replace kt:=kK hV_V2 kt
 replace kn:=kK hV_V2 kn
 replace hF:Fr ((oneX tb)) O O w V2:=nF hV_V2
 replace hA:AP V2 ap t.s O:=nA hV_V2
 have z_V2:=zS hV_V2
 clear hV_V2 c_kt f_kt c_kn f_kn
 obtain ⟨c_kt,f_kt,l_kt_V2⟩:=f3 kt
 obtain ⟨c_kn,f_kn,l_kn_V2⟩:=f3 kn
 refine wp_region_noPanic ?_
 refine wp_region_held_drew (S:=fun v=>(v.cell? ⟨tb,0,none⟩=V2.cell? ⟨tb,0,none⟩)∧(∀o,v.cell? ⟨W1.heap.size,o,none⟩=V2.cell? ⟨W1.heap.size,o,none⟩)∧(V2.heap.size≤v.heap.size)∧True) (by kernel_rfl) ⟨rfl,(fun _=>rfl),(Nat.le_refl _),trivial⟩ (fun hHeld=> ?_)
 generalize hV_V2d:V2.drew=V2d at hHeld⊢
 have d_kt:=dK hV_V2d kt
 have d_kn:=dK hV_V2d kn
 clear c_kt f_kt c_kn f_kn
 replace hA:=hA.drew;rw [hV_V2d] at hA
 replace hF:=hF.drew;rw [hV_V2d] at hF
 have z_V2d:=dZ hV_V2d
 have v_kt:=cells_of kt
 have v_kn:=cells_of kn
 clear kt;have kt:=d_kt;clear d_kt
 clear kn;have kn:=d_kn;clear d_kn
 obtain ⟨c_kt,f_kt,l_kt_V2d⟩:=f3 kt
 obtain ⟨c_kn,f_kn,l_kn_V2d⟩:=f3 kn
 clear hV_V2d
 refine tz 0 rfl hHeld ?_
 try simp only [PT]
 refine tz 1 rfl hHeld ?_
 try simp only [PT]
 refine tz 2 rfl hHeld ?_
 try simp only [PT]
 refine tz 3 rfl hHeld ?_
 try simp only [PT]
 refine tz 4 rfl hHeld ?_
 try simp only [PT]
 refine tz 5 rfl hHeld ?_
 try simp only [PT]
 refine tz 6 rfl hHeld ?_
 try simp only [PT]
 refine tz 8 rfl hHeld ?_
 try simp only [PT]
 refine tz 9 rfl hHeld ?_
 try simp only [PT]
 refine tz 10 rfl hHeld ?_
 try simp only [PT]
 refine tz 11 rfl hHeld ?_
 try simp only [PT]
 refine rd 7 rfl fun K hK=> ?_
 go_simp
 try simp only [IntWalk.i64_left]
 refine (ih.out t _ _ _ _ _ Hu.out ⟨hA,kt,o_kt⟩).mono ?_
 rintro e_W3 W3 ⟨rfl,O1,hT_W3,hf_W3⟩
 have q_kn:=hf_W3.keep kn o_kn (by unfold oneX;omega)
 replace o_kn:=hf_W3.not_own (lt_of kn) o_kn
 clear kn;have kn:=q_kn;clear q_kn
 obtain ⟨c_kn,f_kn,l_kn_W3⟩:=f3 kn
 clear kt c_kt f_kt o_kt;have kt:=hT_W3.blk;have o_kt:=hT_W3.no
 obtain ⟨c_kt,f_kt,l_kt_W3⟩:=f3 kt
 replace hF:=hF.trans hf_W3
 have z_W3:=hf_W3.size
 clear hA hf_W3;have hA:=hT_W3.hA;clear hT_W3
 refine hK.out _ _ ⟨((c_kt 0).trans (v_kt 0).symm),(fun o=>(c_kn o).trans (v_kn o).symm),(by omega),trivial⟩ (fun hHeld=> ?_)
 clear hK K
 try simp only [PT]
 refine rd 12 rfl fun K hK=> ?_
 go_simp
 try simp only [IntWalk.i64_left]
 refine (tKeep_calls (t:=u.2) (t.s.get h).k1 _ ⟨hA,kt,o_kt⟩).mono ?_
 rintro e_W4 W4 ⟨rfl,O2,hT_W4,hf_W4⟩
 have q_kn:=hf_W4.keep kn o_kn (by unfold oneX;omega)
 replace o_kn:=hf_W4.not_own (lt_of kn) o_kn
 clear kn;have kn:=q_kn;clear q_kn
 obtain ⟨c_kn,f_kn,l_kn_W4⟩:=f3 kn
 clear kt c_kt f_kt o_kt;have kt:=hT_W4.blk;have o_kt:=hT_W4.no
 obtain ⟨c_kt,f_kt,l_kt_W4⟩:=f3 kt
 replace hF:=hF.trans hf_W4
 have z_W4:=hf_W4.size
 clear hA hf_W4;have hA:=hT_W4.hA;clear hT_W4
 refine hK.out _ _ ⟨((c_kt 0).trans (v_kt 0).symm),(fun o=>(c_kn o).trans (v_kn o).symm),(by omega),trivial⟩ (fun hHeld=> ?_)
 clear hK K
 try simp only [PT]
 refine rd 13 rfl fun K hK=> ?_
 go_simp
 try simp only [IntWalk.i64_left]
 refine (tFork_calls (t:=u.2.keep (t.s.get h).k1) _ _ _ Hr.out _ ⟨hA,kt,o_kt⟩).mono ?_
 rintro e_W5 W5 ⟨rfl,O3,hT_W5,hf_W5⟩
 have q_kn:=hf_W5.keep kn o_kn (by unfold oneX;omega)
 replace o_kn:=hf_W5.not_own (lt_of kn) o_kn
 clear kn;have kn:=q_kn;clear q_kn
 obtain ⟨c_kn,f_kn,l_kn_W5⟩:=f3 kn
 clear kt c_kt f_kt o_kt;have kt:=hT_W5.blk;have o_kt:=hT_W5.no
 obtain ⟨c_kt,f_kt,l_kt_W5⟩:=f3 kt
 replace hF:=hF.trans hf_W5
 have z_W5:=hf_W5.size
 clear hA hf_W5;have hA:=hT_W5.hA;clear hT_W5
 refine hK.out _ _ ⟨((c_kt 0).trans (v_kt 0).symm),(fun o=>(c_kn o).trans (v_kn o).symm),(by omega),trivial⟩ (fun hHeld=> ?_)
 clear hK K
 try simp only [PT]
 refine rd 14 rfl fun K hK=> ?_
 go_simp
 refine hK.out _ _ hHeld (fun hHeld=> ?_)
 clear hK K
 try simp only [PT]
 refine wpAnyH_done (by kernel_rfl) ?_ _
 refine NoPanic.normal ?_
 go_wp2_with fail
 go_ret
 exact ⟨rfl,O3,⟨hA,kt,o_kt⟩,hF⟩
set_option maxHeartbeats 400000 in
theorem tInsert_calls (one:Bool): ∀(k:Nat) (t:Tb) (O:Nat→Prop) (h i:Int) (r:Int×Tb) (w:World),Tb.insert k t h i one=some r→TB w tb ap t O→
  Calls Tryz.prog 110 #[.pointer (some ⟨tb,0,none⟩), .int .i64 h, .int .i64 i, .bool one] w fun e w'=>e= .returned (.int .i64 r.1)∧DidT tb ap r.2 O w w'
 | 0,t,O,h,i,r,w,hr,hT=>by cases hr
 | k+1,t,O,h,i,r,w,hr,hT=>by
  have ih:=Lib.hid (tInsert_calls one k)
  unfold Tb.insert at hr
  cases h1:bIs t.s h with
  | false=>rw [h1,if_neg (by decide)] at hr;exact tIns_nil one k h i r w hT h1 hr
  | true=>
   rw [h1,if_pos rfl] at hr
   dsimp only at hr
   by_cases h2:(t.s.get h).tag=1
   ·
    have d1:((t.s.get h).tag==1)=true:=by simpa using h2
    have hU:=hT.hA.1.get64 h
    rw [if_pos h2] at hr
    cases h3:insOk (lfK (t.s.get h)) (lfB (t.s.get h)) i with
    | true=>rw [h3,if_pos rfl] at hr;exact tIns_fits one k h i r w hT h1 d1 hU h3 hr
    | false=>
     rw [h3,if_neg (by decide)] at hr
     obtain ⟨l1,H1⟩: ∃l1,l1=(lfL (t.s.get h).a (wrap64 (t.s.get h).b)).take 32:=⟨_,rfl⟩
     obtain ⟨l2,H2⟩: ∃l2,l2=(lfL (t.s.get h).a (wrap64 (t.s.get h).b)).drop 32:=⟨_,rfl⟩
     have e1:l1.length≤64:=by rw [H1,List.length_take];omega
     have e2:l2.length≤64:=by rw [H2,List.length_drop];have:=lfL_le (t.s.get h).a (wrap64 (t.s.get h).b);omega
     rw [show (lfB (t.s.get h)).take 32=l1 from H1.symm,show (lfB (t.s.get h)).drop 32=l2 from H2.symm] at hr
     by_cases h4:i≤(l1.length:Int)
     ·
      rw [if_pos h4] at hr
      exact tIns_l one k h i r w hT h1 d1 hU h3 l1 l2 (Lib.hid H1) (Lib.hid H2) e1 e2 (by simpa using h4) hr
     ·
      rw [if_neg h4] at hr
      exact tIns_r one k h i r w hT h1 d1 hU h3 l1 l2 (Lib.hid H1) (Lib.hid H2) e1 e2 (by simpa using h4) hr
   ·
    have d1:((t.s.get h).tag==1)=false:=by simpa using h2
    rw [if_neg h2] at hr
    by_cases h5:bLen t.s (t.s.get h).k0<i
    ·
     rw [if_pos h5] at hr
     exact tIns_high one k h i r w hT ih h1 d1 (by simpa using h5) hr
    ·
     rw [if_neg h5] at hr
     exact tIns_low one k h i r w hT ih h1 d1 (by simpa using h5) hr
end Go.Proofs.YtdjpjmkpndmhaaaGreat
namespace Go.Proofs.YtdjpjmkpndmhaaaGreat
open Go.RowKit
attribute [local go_sem ↓] Go.wp_at_zero Go.wp_at_succ
attribute [local go_sem] lt_s2 lt_s3 lt_s4
variable {ap : Value} {O : Nat → Prop} {s : Ar}
theorem AP.ptr {w:World} (h:AP w ap s O): ∃q,ap= .pointer q:=by
  rcases h.2 with ⟨h,_⟩|⟨p,_,_,_,_,h,_⟩
  · exact ⟨_,h⟩
  · exact ⟨_,h⟩
set_option maxRecDepth 100000 in
set_option maxHeartbeats 2000000 in
theorem bInsert_calls (h i : Int) (one : Bool) (r : Int × Int × Ar) (hr : bInsert s h i one = some r) (w : World) (hA : AP w ap s O) :
    Calls Tryz.prog 61 #[ap, .int .i64 h, .int .i64 i, .bool one] w fun e w'=>e= .returned (.tuple #[.int .i64 r.1, .int .i64 r.2.1])∧Did noX ap r.2.2 O w w':=by
  obtain ⟨q,rfl⟩:=hA.ptr
  unfold bInsert at hr
  by_cases h1:i<0
  · have d1:decide (i<0)=true:=by simpa using h1
    rw [if_pos (.inl h1)] at hr
    obtain rfl:=Option.some.inj hr
    clear hr h1
    go_enter Tryz.func61,Tryz.ntmps61
    go_wp2_with fail
    go_ret2
    exact ⟨rfl,O,hA,Fr.refl _ _ _⟩
  · have d1:decide (i<0)=false:=by simpa using h1
    by_cases h2:bLen s h<i
    · have d2:decide (bLen s h<i)=true:=by simpa using h2
      rw [if_pos (.inr h2)] at hr
      obtain rfl:=Option.some.inj hr
      clear hr h1 h2
      go_enter Tryz.func61,Tryz.ntmps61
      go_wp2_with fail
      refine calls_gen fun V hV_V=> ?_
      have hF:Fr (noX) O O w V:=nF hV_V
      replace hA:AP V (.pointer q) s O:=nA hV_V
      have z_V:=zS hV_V
      clear hV_V
      refine (bLen_calls _ _ hA).mono ?_
      rintro e_W1 W1 ⟨rfl,hb_W1⟩
      replace hA:=hA.below hb_W1
      replace hF:=hF.below hb_W1
      have z_W1:=hb_W1.size
      clear hb_W1
      go_wp2_with fail
      go_ret2
      exact ⟨rfl,O,hA,hF⟩
    · have d2:decide (bLen s h<i)=false:=by simpa using h2
      rw [if_neg (by omega)] at hr
      obtain ⟨u,hu,rfl⟩:=Option.map_eq_some_iff.1 hr
      have Hu:=Lib.hid hu
      clear hr hu h1 h2
      go_enter Tryz.func61,Tryz.ntmps61
      go_wp2_with fail
      refine calls_gen fun V hV_V=> ?_
      have hF:Fr (noX) O O w V:=nF hV_V
      replace hA:AP V (.pointer q) s O:=nA hV_V
      have z_V:=zS hV_V
      clear hV_V
      refine (bLen_calls _ _ hA).mono ?_
      rintro e_W1 W1 ⟨rfl,hb_W1⟩
      replace hA:=hA.below hb_W1
      replace hF:=hF.below hb_W1
      have z_W1:=hb_W1.size
      clear hb_W1
      go_wp2_with fail
      refine calls_gen fun V1 hV_V1=> ?_
      have n_kt:=hbk hV_V1 (W1.heap.size)
      simp (maxDischargeDepth:=9) only [BK,not_false_eq_true,reduceCtorEq] at n_kt
      have o_kt: ¬O (W1.heap.size):=by first|exact hA.new (Nat.le_refl _)|exact hA.new (by omega)
      replace hF:Fr (noX) O O w V1:=nF hV_V1
      replace hA:AP V1 (.pointer q) s O:=nA hV_V1
      have z_V1:=zS hV_V1
      clear hV_V1
      have kt:=n_kt;clear n_kt
      obtain ⟨c_kt,f_kt,l_kt_V1⟩:=f3 kt
      refine (tInsert_calls one rounds ⟨s,0⟩ _ _ _ _ _ Hu.out ⟨hA,kt,o_kt⟩).mono ?_
      rintro e_W2 W2 ⟨rfl,O1,hT_W2,hf_W2⟩
      clear kt c_kt f_kt o_kt;have kt:=hT_W2.blk;have o_kt:=hT_W2.no
      obtain ⟨c_kt,f_kt,l_kt_W2⟩:=f3 kt
      replace hF:=hF.trans_new hf_W2 (by omega)
      have z_W2:=hf_W2.size
      clear hA hf_W2;have hA:=hT_W2.hA;clear hT_W2
      go_wp2_with fail
      refine calls_gen fun V2 hV_V2=> ?_
      replace kt:=kK hV_V2 kt
      replace hF:Fr (noX) O O1 w V2:=nF hV_V2
      replace hA:AP V2 (.pointer q) (u.2).s O1:=nA hV_V2
      have z_V2:=zS hV_V2
      clear hV_V2 c_kt f_kt
      obtain ⟨c_kt,f_kt,l_kt_V2⟩:=f3 kt
      refine (tTold_calls (t:=u.2) u.1 _ ⟨hA,kt,o_kt⟩).mono ?_
      rintro e_W3 W3 ⟨rfl,O2,hT_W3,hf_W3⟩
      clear kt c_kt f_kt o_kt;have kt:=hT_W3.blk;have o_kt:=hT_W3.no
      obtain ⟨c_kt,f_kt,l_kt_W3⟩:=f3 kt
      replace hF:=hF.trans_new hf_W3 (by omega)
      have z_W3:=hf_W3.size
      clear hA hf_W3;have hA:=hT_W3.hA;clear hT_W3
      go_wp2_with fail
      go_ret2
      refine ⟨rfl,O2,?_,hF⟩
      have e:(Tb.told u).2.2=u.2.s:=by unfold Tb.told;split<;>rfl
      rw [e];exact hA
end Go.Proofs.YtdjpjmkpndmhaaaGreat

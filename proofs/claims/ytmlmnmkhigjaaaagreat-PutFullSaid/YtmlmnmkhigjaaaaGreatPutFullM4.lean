/- Part 4 of what PutFull needs: the walks of the program's functions, and plain facts. -/
import Derived.Test.YtmlmnmkhigjaaaaGreatPutFullM3
import Derived.Sort.LotA
import Derived.IntWalk
set_option linter.unusedSimpArgs false
set_option linter.unusedVariables false
set_option linter.unnecessarySimpa false
namespace Go.Proofs.YtmlmnmkhigjaaaaGreat
set_option maxRecDepth 100000
set_option maxHeartbeats 8000000
section
open Go.RowKit
structure Bst where
  s:Ar
  ok:Bool
  p:Parts
  n:Int
def nextA (ok:Bool) (h:Int) (r:Int×Int×Ar):Int×Bool×Ar:=if r.2.1=0 then (r.1,ok,if h=0 then r.2.2 else r.2.2.drop h) else (h,false,r.2.2)
def bStep (rate i:Int) (x:Int×Int×Int) (b:Bst):Option Bst:=
  (wInsert b.s b.p.wave i x.2.2).bind fun r1=>
  let t1:=nextA b.ok b.p.wave r1
  (bInsert t1.2.2 b.p.marks i (decide (x.2.1 % rate=0))).bind fun r2=>
  let t2:=nextA t1.2.1 b.p.marks r2
  if x.2.1 % rate=0 then
    (lInsert t2.2.2 b.p.spots b.n (x.1,x.2.1)).bind fun r3=>
    let t3:=nextA t2.2.1 b.p.spots r3
    (t3.2.2.work 1073741824).map fun u=>⟨u.2,t3.2.1,⟨t1.1,t2.1,t3.1,b.p.table⟩,wrap64 (b.n+1)⟩
  else (t2.2.2.work 1073741824).map fun u=>⟨u.2,t2.2.1,⟨t1.1,t2.1,b.p.spots,b.p.table⟩,b.n⟩
def bRows (rate:Int):List (Int×Int×Int)→Int→Bst→Option Bst
  | [],_,b=>some b
  | x::l,i,b=>if b.ok then (bStep rate i x b).bind fun b=>bRows rate l (i+1) b else some b
def bTable:List (Int×Int)→Bst→Option Bst
  | [],b=>some b
  | x :: l, b => (lAll b.s b.p.table).bind fun a => if a.length ≤ 50000 then
      (tAdd b.s b.p.table x.1 x.2).bind fun r=>bTable l ⟨(nextA b.ok b.p.table r).2.2,(nextA b.ok b.p.table r).2.1,⟨b.p.wave,b.p.marks,b.p.spots,(nextA b.ok b.p.table r).1⟩,b.n⟩
    else none
def dropP (s:Ar) (h:Int):Ar:=if h=0 then s else s.drop h
def bEnd (b:Bst):Option (Int×Bool×Ar):=
  let t:=if b.ok then nextA true 0 (vMake b.s b.p) else (0,false,b.s)
  let s:=dropP (dropP (dropP (dropP t.2.2 b.p.wave) b.p.marks) b.p.spots) b.p.table
  (s.work 1073741824).map fun u=>(t.1,t.2.1,if t.2.1=false∧t.1≠0 then u.2.drop t.1 else u.2)
def bBuild (s:Ar) (rate:Int) (rows:List (Int×Int×Int)) (docs:List (Int×Int)):Option (Int×Bool×Ar):=
  if docs=[] then some (0,true,s)
  else (bRows rate rows 0 ⟨s,true,Parts.zero,0⟩).bind fun b=>(bTable docs b).bind bEnd
end
section
open Go.RowKit
attribute [local go_sem ↓] Go.wp_at_zero Go.wp_at_succ
attribute [local go_sem] lt_s2 lt_s3 lt_s4
attribute [local go_sem] idx0 idx1 idx2 idx3
variable {ap : Value} {s : Ar} {O : Nat → Prop}
theorem work_calls (most : Int) (r : Int × Ar) (hr : s.work most = some r) (w : World) (hA : AP w ap s O) :
    Calls Tryz.prog 37 #[ap, .int .i64 most] w fun e w'=>e= .returned (.int .i64 r.1)∧Did noX ap r.2 O w w':=by
  have hb':=Lib.hid hr;clear hr
  go_enter Tryz.func37,Tryz.ntmps37
  go_wp2_with fail
  refine wp_scope_ghost 0 (fun n a' wr=> ∃x s1 O1,(AP wr ap s1 O1∧Fr noX O O1 w wr∧Hid (Ar.workL n s1 most x=some r))∧ ∃u2 u3 u4 u6 u7 u8 u9 u10 u11 u12 u13 u14 u15 u16 u17 u18 u19 u20 u21 u22 u23 u24 u25 u26 u27 u28 u29 u30 u31 u32 u33 u34 u35 u36 u37 u38 u39 u40 u41 u42 u43 u44 u45 u46 u47 u48 u49 u50 u51 u52 u53 u54 u55 u56 u57 u58 u59 u60 u61 u62 u63 u64 u65 u66 u67 u68 u69 u70:Value,a'={tmps:= #[(ap:Value),(.int .i64 most:Value),u2,u3,u4,(.int .i64 x:Value),u6,u7,u8,u9,u10,u11,u12,u13,u14,u15,u16,u17,u18,u19,u20,u21,u22,u23,u24,u25,u26,u27,u28,u29,u30,u31,u32,u33,u34,u35,u36,u37,u38,u39,u40,u41,u42,u43,u44,u45,u46,u47,u48,u49,u50,u51,u52,u53,u54,u55,u56,u57,u58,u59,u60,u61,u62,u63,u64,u65,u66,u67,u68,u69,u70],defers:=[]}) (by rfl) ?first ?pass
  case first=>
    intro hrest
    go_wp2_with fail
    go_step3
    go_step
    go_step
    refine hrest rounds _ _ ⟨0,s,O,⟨hA,Fr.refl _ _ _,hb'⟩,?_⟩
    exact ⟨_,_,_,_,_,_,_,_,_,_,_,_,_,_,_,_,_,_,_,_,_,_,_,_,_,_,_,_,_,_,_,_,_,_,_,_,_,_,_,_,_,_,_,_,_,_,_,_,_,_,_,_,_,_,_,_,_,_,_,_,_,_,_,_,_,_,_,_,rfl⟩
  case pass=>
    rintro n a' wr ⟨x,s1,O1,⟨hA,hF0,hb'⟩,u2,u3,u4,u6,u7,u8,u9,u10,u11,u12,u13,u14,u15,u16,u17,u18,u19,u20,u21,u22,u23,u24,u25,u26,u27,u28,u29,u30,u31,u32,u33,u34,u35,u36,u37,u38,u39,u40,u41,u42,u43,u44,u45,u46,u47,u48,u49,u50,u51,u52,u53,u54,u55,u56,u57,u58,u59,u60,u61,u62,u63,u64,u65,u66,u67,u68,u69,u70,rfl⟩ J hJ
    have hb:=hb'.out
    clear hb'
    cases n with
    | zero=>exact absurd hb (by simp [Ar.workL])
    | succ n=>
      unfold Ar.workL at hb
      by_cases h1:most≤x
      · rw [if_pos h1] at hb
        have d1:decide (most≤x)=true:=by simpa using h1
        obtain rfl:=Option.some.inj hb
        clear hb h1
        have HF:=Lib.hid hF0;clear hF0
        go_wp2_with fail
        simp only [Exit.jump]
        go_ret
        exact ⟨rfl,O1,hA,HF.out⟩
      · rw [if_neg h1] at hb
        have d1:decide (most≤x)=false:=by simpa using h1
        clear h1
        cases hwt:s1.wait with
        | nil=>
          rw [hwt] at hb
          obtain rfl:=Option.some.inj hb
          clear hb
          have HF:=Lib.hid hF0;clear hF0
          go_wp2_with fail
          refine (pending_calls _ hA).mono ?_
          rintro e w1 ⟨rfl,rfl⟩
          rw [hwt]
          go_wp2_with fail
          simp only [Exit.jump]
          go_ret
          exact ⟨rfl,O1,hA,HF.out⟩
        | cons h l=>
          rw [hwt] at hb
          dsimp only at hb
          have hm:=hA.1.mem h (by rw [hwt];simp)
          obtain ⟨p,nb,cb,ub,wv,rfl,hR⟩:=hA.raw (by omega)
          have hwv:=hR.hw
          rw [hwt] at hwv
          rcases hwv with ⟨-,h0⟩|⟨g,off,cap,c,rfl,hg,hl1,hl2,hl3,hl4⟩
          · cases h0
          have hs:=hA.1.small
          have Hb:=Lib.hid hb;clear hb
          have HF:=Lib.hid hF0;clear hF0
          obtain ⟨cp,cc,cu,n0,n1,n2,n3,n4,n5,n6⟩:=hR.reads
          have cu:=cu h hm.2.1;have n0:=n0 h hm.2.1;have n1:=n1 h hm.2.1;have n2:=n2 h hm.2.1;have n3:=n3 h hm.2.1;have n4:=n4 h hm.2.1;have n5:=n5 h hm.2.1;have n6:=n6 h hm.2.1
          clear cc
          have hc4:=hl4 0 (by simp)
          simp only [Nat.add_zero,List.getElem_cons_zero] at hc4
          have cw:wr.cell? ⟨g,off,none⟩=some (.int .i64 (h:Int)):=by rw [cells_of hg];exact hc4
          clear hc4
          have hne1:=hR.pn;have hne2:=hR.pc;have hne3:=hR.pu;have hne4:=hR.nc;have hne5:=hR.nu;have hne6:=hR.cu
          have fn:=free_of hR.hn;have fu:=free_of hR.hu;have fp:=free_of hR.hp
          have d3:(h:Int)<(s1.size:Int)+1:=by omega
          have d4:(0:Int)≤(h:Int):=by omega
          have HR:=Lib.hid hR;clear hR
          have hO1: ∀y,wr.heap.size≤y→ ¬O1 y:=fun y hy=>hA.new hy
          have hWq:=hA.1.pop hwt
          have HW:=Lib.hid hWq;clear hWq
          go_wp2_with fail
          refine (pending_calls _ hA).mono ?_
          rintro e w1 ⟨rfl,rfl⟩
          rw [hwt]
          clear hA
          have HL4:=Lib.hid hl4;clear hl4
          have HG:=Lib.hid hg;clear hg
          have Hwt:=Lib.hid hwt;clear hwt
          by_cases hcap:cap=1
          all_goals
            go_wp2_with fail
            refine wp_gen fun V hV=> ?_
            have key: ∃nv,Raw V p s1.size nb cb ub nv (nodeF s1) (countF s1) (usedF s1) s1.busy s1.made l O1∧V.heap[wr.heap.size]? =some (.cells #[.int .i64 (s1.node h).k0, .int .i64 (s1.node h).k1, .int .i64 (s1.node h).k2, .int .i64 (s1.node h).k3] 169 (0,0))∧Fr noX O O1 w V:=by
              have hR:=HR.out
              have hl1':l.length+1≤cap:=by simpa using hl1
              have hnb:(Value.slice (some ⟨g,off,none⟩) (h::l).length cap).ownBlock=some g:=rfl
              have hwt2: ∀(o2 c2:Nat),(l.length=0∨o2=off+1)→l.length≤c2→o2+c2≤off+cap→Wt wr (.slice (some ⟨g,o2,none⟩) l.length c2) l:=by
                intro o2 c2 ho hc2 hoc
                refine .inr ⟨g,o2,c2,c,rfl,HG.out,hc2,by omega,by omega,fun i hi=> ?_⟩
                have ho2:o2=off+1:=by omega
                subst ho2
                have:=HL4.out (i+1) (by simp;omega)
                rw [show off+1+i=off+(i+1) by omega,this]
                simp
              have hO:=hR.ow g hnb
              have h1:g≠cb:=fun e=>hR.ncw (by rw [hnb,e])
              have h2:g≠p:=fun e=>hR.wp (by rw [hnb,e])
              first
              | exact ⟨_,by rw [hV];exact (hR.setW (.slice (some ⟨g,off+1,none⟩) l.length (cap - 1)) l (hwt2 _ _ (.inr rfl) (by omega) (by omega)) (by simp [Value.ownBlock];exact h1) (by simp [Value.ownBlock];exact h2) (by simp [Value.ownBlock];exact hO)).alloc _,by rw [hV];exact blk_new _ _ _ (by rw [siz_set]),by rw [hV];exact (HF.out.ownSet (q:=⟨p,3,none⟩) hR.op _).alloc _⟩
              | exact ⟨_,by rw [hV];exact (hR.setW (.slice (some ⟨g,off,none⟩) l.length (cap - 1)) l (hwt2 _ _ (.inl (by omega)) (by omega) (by omega)) (by simp [Value.ownBlock];exact h1) (by simp [Value.ownBlock];exact h2) (by simp [Value.ownBlock];exact hO)).alloc _,by rw [hV];exact blk_new _ _ _ (by rw [siz_set]),by rw [hV];exact (HF.out.ownSet (q:=⟨p,3,none⟩) hR.op _).alloc _⟩
              | exact ⟨_,by rw [hV];exact (hR.setW (.slice (some ⟨g,off,none⟩) l.length 0) l (hwt2 _ _ (.inl (by omega)) (by omega) (by omega)) (by simp [Value.ownBlock];exact h1) (by simp [Value.ownBlock];exact h2) (by simp [Value.ownBlock];exact hO)).alloc _,by rw [hV];exact blk_new _ _ _ (by rw [siz_set]),by rw [hV];exact (HF.out.ownSet (q:=⟨p,3,none⟩) hR.op _).alloc _⟩
            obtain ⟨nv,hRV,hk,hFV⟩:=key
            have hz:wr.heap.size<V.heap.size:=lt_of hk
            have hx1:wr.heap.size≠nb:=fun e=>hO1 _ (Nat.le_refl _) (by rw [e];exact hRV.on)
            have hx2:wr.heap.size≠cb:=fun e=>hO1 _ (Nat.le_refl _) (by rw [e];exact hRV.oc)
            have hx3:wr.heap.size≠ub:=fun e=>hO1 _ (Nat.le_refl _) (by rw [e];exact hRV.ou)
            have hx4:wr.heap.size≠p:=fun e=>hO1 _ (Nat.le_refl _) (by rw [e];exact hRV.op)
            have hkO: ¬O1 wr.heap.size:=hO1 _ (Nat.le_refl _)
            clear hV HL4 HG HR HF cp cu n0 n1 n2 n3 n4 n5 n6 cw fn fu fp hl1 hl2 hl3
            obtain ⟨cp,cc,cu,n0,n1,n2,n3,n4,n5,n6⟩:ArenaC V p {s1 with wait:=l} nb cb ub nv:=RawS.reads (s:={s1 with wait:=l}) hRV
            have cu:=cu h hm.2.1;have n0:=n0 h hm.2.1;have n1:=n1 h hm.2.1;have n2:=n2 h hm.2.1;have n3:=n3 h hm.2.1;have n4:=n4 h hm.2.1;have n5:=n5 h hm.2.1;have n6:=n6 h hm.2.1
            clear cc
            dsimp only at cp cu n0 n1 n2 n3 n4 n5 n6
            have ck:=cells_of hk
            have fn:=free_of hRV.hn;have fu:=free_of hRV.hu
            have HRV:=Lib.hid hRV;clear hRV
            have HFV:=Lib.hid hFV;clear hFV
            go_region
            have fp:=free_of HRV.out.hp
            go_wp2_with fail
            refine wp_gen fun V2 hV2=> ?_
            have key2:AP V2 (.pointer (some ⟨p,0,none⟩)) (s1.pop h l) O1∧Fr noX O O1 w V2:=by
              have hR2:=HRV.out
              have hfin:=(((((((((hR2.setN (h*7) (.int .i64 0)).setN (h*7+1) (.int .i64 0)).setN (h*7+2) (.int .i64 0)).setN (h*7+3) (.int .i64 0)).setN (h*7+4) (.int .i64 0)).setN (h*7+5) (.int .u64 0)).setN (h*7+6) (.int .u64 0)).setU h (.bool false)).setB (wrap64 (s1.busy - 1)))
              have hf0:=HFV.out
              have o1:=hR2.op;have o2:=hR2.on;have o4:=hR2.ou
              rw [hV2]
              constructor
              · refine (AP.of_raw (nb:=nb) (cb:=cb) (ub:=ub) (wv:=nv) (s:=s1.pop h l) ?_ HW.out).drew
                refine hfin.congr (fun i _=>(nodeF_upd _ h Nd.zero i).trans ?_) (fun i _=>rfl) (fun i _=> ?_)
                · rfl
                · unfold updF usedF Ar.pop upd;dsimp only;split<;>rfl
              · clear hfin
                exact (((((((((hf0.ownSet (q:=_) (by exact o2) _).ownSet (q:=_) (by exact o2) _).ownSet (q:=_) (by exact o2) _).ownSet (q:=_) (by exact o2) _).ownSet (q:=_) (by exact o2) _).ownSet (q:=_) (by exact o2) _).ownSet (q:=_) (by exact o2) _).ownSet (q:=_) (by exact o4) _).ownSet (q:=_) (by exact o1) _).drew
            obtain ⟨hA2,hF2⟩:=key2
            clear hV2 HRV HFV
            have HA2:=Lib.hid hA2;have HF2:=Lib.hid hF2;clear hA2 hF2
            go_loopw [62] (fun y w3=> ∃i:Nat,i≤4∧y= .int .i64 i∧ ∃O',AP w3 (.pointer (some ⟨p,0,none⟩)) ((s1.pop h l).dropAll ((s1.node h).kids.take i)) O'∧Fr noX O O' w w3) (fun y _=>4 - (intOf y).toNat)
            case atStart=>exact ⟨0,by omega,rfl,_,HA2.out,HF2.out⟩
            case round=>
              obtain ⟨i,hi,rfl,O',hA',hF'⟩:=hrel
              rcases (show i=0∨i=1∨i=2∨i=3∨i=4 by omega) with rfl|rfl|rfl|rfl|rfl
              · have HA:=Lib.hid hA';have HF2:=Lib.hid hF';clear hA' hF'
                go_wp2_with fail
                refine (drop_calls _ _ HA.out).mono ?_
                rintro e1 w1 ⟨rfl,O3,hA1,hf1⟩
                go_wp2_with fail
                go_roundw
                case rel=>exact ⟨1,by omega,rfl,O3,hA1,HF2.out.trans hf1⟩
                case measure=>simp [intOf]
              · have HA:=Lib.hid hA';have HF2:=Lib.hid hF';clear hA' hF'
                go_wp2_with fail
                refine (drop_calls _ _ HA.out).mono ?_
                rintro e1 w1 ⟨rfl,O3,hA1,hf1⟩
                go_wp2_with fail
                go_roundw
                case rel=>exact ⟨2,by omega,rfl,O3,hA1,HF2.out.trans hf1⟩
                case measure=>simp [intOf]
              · have HA:=Lib.hid hA';have HF2:=Lib.hid hF';clear hA' hF'
                go_wp2_with fail
                refine (drop_calls _ _ HA.out).mono ?_
                rintro e1 w1 ⟨rfl,O3,hA1,hf1⟩
                go_wp2_with fail
                go_roundw
                case rel=>exact ⟨3,by omega,rfl,O3,hA1,HF2.out.trans hf1⟩
                case measure=>simp [intOf]
              · have HA:=Lib.hid hA';have HF2:=Lib.hid hF';clear hA' hF'
                go_wp2_with fail
                refine (drop_calls _ _ HA.out).mono ?_
                rintro e1 w1 ⟨rfl,O3,hA1,hf1⟩
                go_wp2_with fail
                go_roundw
                case rel=>exact ⟨4,by omega,rfl,O3,hA1,HF2.out.trans hf1⟩
                case measure=>simp [intOf]
              · have HA:=Lib.hid hA';have HF3:=Lib.hid hF';clear hA' hF'
                go_wp2_with fail
                go_step3
                refine ⟨rfl,hJ _ _ ⟨n,by omega,_,_,_,⟨HA.out,HF3.out,Hb⟩,?_⟩⟩
                exact ⟨_,_,_,_,_,_,_,_,_,_,_,_,_,_,_,_,_,_,_,_,_,_,_,_,_,_,_,_,_,_,_,_,_,_,_,_,_,_,_,_,_,_,_,_,_,_,_,_,_,_,_,_,_,_,_,_,_,_,_,_,_,_,_,_,_,_,_,_,rfl⟩
end
section
open Go.RowKit
attribute [local go_sem ↓] Go.wp_at_zero Go.wp_at_succ
attribute [local go_sem] lt_s2 lt_s3 lt_s4
variable {ap : Value} {s : Ar} {O : Nat → Prop}
theorem wGet_calls (h i : Int) (r : Int × Bool) (hr : wGet s h i = some r) (w : World) (hA : AP w ap s O) :
    Calls Tryz.prog 82 #[ap, .int .i64 h, .int .i64 i] w fun e w'=>e= .returned (.tuple #[.int .i64 r.1, .bool r.2])∧Below w.heap.size w w':=by
  unfold wGet at hr
  by_cases h1:i<0
  · rw [if_pos (.inl h1)] at hr
    have d1:decide (i<0)=true:=by simpa using h1
    cases hr
    clear h1
    go_enter Tryz.func82,Tryz.ntmps82
    go_wp2_with fail
    go_step3
    go_wp2_with fail
    simp only [Exit.noGoto_ret]
    go_ret2
    exact ⟨rfl,bel⟩
  · have d1:decide (i<0)=false:=by simpa using h1
    by_cases h2:wLen s h≤i
    · rw [if_pos (.inr h2)] at hr
      have d2:decide (wLen s h≤i)=true:=by simpa using h2
      cases hr
      clear h1 h2
      go_enter Tryz.func82,Tryz.ntmps82
      go_wp2_with fail
      go_step3
      go_wp2_with fail
      refine cg fun V hV_V=> ?_
      have hB:=Below.refl w.heap.size w
      refine nea0 hV_V hA hB ?_;clear hA hB;intro z_V hA hB
      clear hV_V
      refine rC (wLen_calls _ _ hA) fun w1 hb_w1=> ?_
      refine bea0 hb_w1 hA hB ?_;clear hb_w1 hA hB;intro z_w1 hA hB
      go_wp2_with fail
      simp only [Exit.noGoto_ret]
      go_ret2
      exact ⟨rfl,bel⟩
    · rw [if_neg (by omega)] at hr
      have d2:decide (wLen s h≤i)=false:=by simpa using h2
      clear h1 h2
      obtain ⟨b,hb,rfl⟩:=Option.map_eq_some_iff.1 hr
      have hb':=Lib.hid hb;clear hb hr
      go_enter Tryz.func82,Tryz.ntmps82
      go_wp2_with fail
      refine wp_scope_ghost 0 (fun n a' wr=> ∃x y z l,(Below w.heap.size w wr∧1≤n∧n≤9∧l=9 - (n:Int)∧Hid (wGetL n s x y z=some b))∧ ∃u3 u4 u5 u6 u7 u10 u11 u12 u13 u14 u15 u16 u17 u18 u19 u20 u21 u22 u23 u24 u25 u26 u27 u28 u29 u30 u31 u32 u33 u34 u35 u36 u37 u38 u39 u40 u41 u42 u43 u44 u45 u46 u47 u48 u49 u50 u51 u52 u53 u54 u55 u56 u57:Value,a'={tmps:= #[(ap:Value),(.int .i64 x:Value),(.int .i64 y:Value),u3,u4,u5,u6,u7,(.int .i64 z:Value),(.int .i64 l:Value),u10,u11,u12,u13,u14,u15,u16,u17,u18,u19,u20,u21,u22,u23,u24,u25,u26,u27,u28,u29,u30,u31,u32,u33,u34,u35,u36,u37,u38,u39,u40,u41,u42,u43,u44,u45,u46,u47,u48,u49,u50,u51,u52,u53,u54,u55,u56,u57],defers:=[]}) (by rfl) ?first ?pass
      case first=>
        intro hrest
        go_wp2_with fail
        refine cg fun V hV_V=> ?_
        have hB:=Below.refl w.heap.size w
        refine nea0 hV_V hA hB ?_;clear hA hB;intro z_V hA hB
        clear hV_V
        refine rC (wLen_calls _ _ hA) fun w1 hb_w1=> ?_
        refine bea0 hb_w1 hA hB ?_;clear hb_w1 hA hB;intro z_w1 hA hB
        go_wp2_with fail
        go_step3
        go_step
        go_step
        refine hrest 9 _ _ ⟨h,i,0,0,⟨hB,by omega,by omega,by omega,hb'⟩,?_⟩
        exact ⟨_,_,_,_,_,_,_,_,_,_,_,_,_,_,_,_,_,_,_,_,_,_,_,_,_,_,_,_,_,_,_,_,_,_,_,_,_,_,_,_,_,_,_,_,_,_,_,_,_,_,_,_,_,rfl⟩
      case pass=>
        rintro n a' wr ⟨x,y,z,l,⟨hB,hn1,hn2,hl,hb'⟩,u3,u4,u5,u6,u7,u10,u11,u12,u13,u14,u15,u16,u17,u18,u19,u20,u21,u22,u23,u24,u25,u26,u27,u28,u29,u30,u31,u32,u33,u34,u35,u36,u37,u38,u39,u40,u41,u42,u43,u44,u45,u46,u47,u48,u49,u50,u51,u52,u53,u54,u55,u56,u57,rfl⟩ J hJ
        have hA:=hA.below hB
        have z_r:=hB.size
        have hb:=hb'.out
        clear hb'
        obtain ⟨n,rfl⟩: ∃m,n=m+1:=⟨n - 1,by omega⟩
        unfold wGetL at hb
        obtain ⟨o,ho,hb⟩:=Option.bind_eq_some_iff.1 hb
        obtain ⟨j,hj,hb⟩:=Option.bind_eq_some_iff.1 hb
        have Ho:=Lib.hid ho;have Hj:=Lib.hid hj;have Hb:=Lib.hid hb;clear ho hj hb
        have hl':l+1=9 - (n:Int):=by omega
        have hl1:0≤l:=by omega
        have hl2:l≤9:=by omega
        have Hl:=Lib.hid hl'
        clear hl' hl
        obtain ⟨one,oo⟩:=o
        by_cases hn:1≤n
        · have d3:decide (l+1<9)=true:=by have:=Hl.out;simp;omega
          cases one
          all_goals
            go_wp2_with fail
            refine cg fun V1 hV_V1=> ?_
            refine nea0 hV_V1 hA hB ?_;clear hA hB;intro z_V1 hA hB
            clear hV_V1
            refine rC (wRow_calls _ _ hA) fun w2 hb_w2=> ?_
            refine bea0 hb_w2 hA hB ?_;clear hb_w2 hA hB;intro z_w2 hA hB
            unfold Nd.val
            go_wp2_with fail
            refine cg fun V2 hV_V2=> ?_
            refine nna0 hV_V2 hA hB ?_;clear hA hB;intro hn_V2 z_V2 hA hB
            obtain ⟨k0,c_k0,o_k0,l_k0V2⟩:=nN hn_V2 hV_V2 (w2.heap.size)
            clear hV_V2 hn_V2
            refine rC (bGet_calls _ _ _ Ho.out _ hA) fun w3 hb_w3=> ?_
            refine bea1 hb_w3 hA hB k0 ?_;clear hb_w3 hA hB k0 c_k0;intro z_w3 hA hB k0 c_k0
            go_wp2_with fail
            refine cg fun V3 hV_V3=> ?_
            refine nea1 hV_V3 hA hB k0 ?_;clear hA hB k0 c_k0;intro z_V3 hA hB k0 c_k0
            clear hV_V3
            refine rC (wAlike_calls _ _ _ _ Hj.out _ hA) fun w4 hb_w4=> ?_
            refine bea1 hb_w4 hA hB k0 ?_;clear hb_w4 hA hB k0 c_k0;intro z_w4 hA hB k0 c_k0
            go_wp2_with fail
            refine cg fun V4 hV_V4=> ?_
            refine nea1 hV_V4 hA hB k0 ?_;clear hA hB k0 c_k0;intro z_V4 hA hB k0 c_k0
            clear hV_V4
            refine rC (wKid_calls (s.get x) _ _) fun w5 hb_w5=> ?_
            refine bea1 hb_w5 hA hB k0 ?_;clear hb_w5 hA hB k0 c_k0;intro z_w5 hA hB k0 c_k0
            go_wp2_with fail
            go_step3
            refine ⟨rfl,hJ _ _ ⟨n,by omega,_,_,_,_,⟨bel,hn,by omega,Hl.out,Hb⟩,?_⟩⟩
            exact ⟨_,_,_,_,_,_,_,_,_,_,_,_,_,_,_,_,_,_,_,_,_,_,_,_,_,_,_,_,_,_,_,_,_,_,_,_,_,_,_,_,_,_,_,_,_,_,_,_,_,_,_,_,_,rfl⟩
        · obtain rfl:n=0:=by omega
          have d3:decide (l+1<9)=false:=by have:=Hl.out;simp;omega
          cases one
          all_goals
            go_wp2_with fail
            refine cg fun V1 hV_V1=> ?_
            refine nea0 hV_V1 hA hB ?_;clear hA hB;intro z_V1 hA hB
            clear hV_V1
            refine rC (wRow_calls _ _ hA) fun w2 hb_w2=> ?_
            refine bea0 hb_w2 hA hB ?_;clear hb_w2 hA hB;intro z_w2 hA hB
            unfold Nd.val
            go_wp2_with fail
            refine cg fun V2 hV_V2=> ?_
            refine nna0 hV_V2 hA hB ?_;clear hA hB;intro hn_V2 z_V2 hA hB
            obtain ⟨k0,c_k0,o_k0,l_k0V2⟩:=nN hn_V2 hV_V2 (w2.heap.size)
            clear hV_V2 hn_V2
            refine rC (bGet_calls _ _ _ Ho.out _ hA) fun w3 hb_w3=> ?_
            refine bea1 hb_w3 hA hB k0 ?_;clear hb_w3 hA hB k0 c_k0;intro z_w3 hA hB k0 c_k0
            go_wp2_with fail
            refine cg fun V3 hV_V3=> ?_
            refine nea1 hV_V3 hA hB k0 ?_;clear hA hB k0 c_k0;intro z_V3 hA hB k0 c_k0
            clear hV_V3
            refine rC (wAlike_calls _ _ _ _ Hj.out _ hA) fun w4 hb_w4=> ?_
            refine bea1 hb_w4 hA hB k0 ?_;clear hb_w4 hA hB k0 c_k0;intro z_w4 hA hB k0 c_k0
            go_wp2_with fail
            refine cg fun V4 hV_V4=> ?_
            refine nea1 hV_V4 hA hB k0 ?_;clear hA hB k0 c_k0;intro z_V4 hA hB k0 c_k0
            clear hV_V4
            refine rC (wKid_calls (s.get x) _ _) fun w5 hb_w5=> ?_
            refine bea1 hb_w5 hA hB k0 ?_;clear hb_w5 hA hB k0 c_k0;intro z_w5 hA hB k0 c_k0
            go_wp2_with fail
            simp only [Exit.jump]
            go_ret2
            exact ⟨by rw [←Option.some.inj Hb.out];rfl,bel⟩
end
section
open Go.RowKit
attribute [local go_sem ↓] Go.wp_at_zero Go.wp_at_succ
attribute [local go_sem] lt_s2 lt_s3 lt_s4
variable {ap : Value} {s : Ar} {O : Nat → Prop}
theorem wRank_calls (h c i r : Int) (hr : wRank s h c i = some r) (w : World) (hA : AP w ap s O) :
    Calls Tryz.prog 138 #[ap, .int .i64 h, .int .i64 c, .int .i64 i] w fun e w'=>e= .returned (.int .i64 r)∧Below w.heap.size w w':=by
  unfold wRank at hr
  cases h1:wIs c with
  | false=>
    rw [h1,if_neg (by decide)] at hr
    cases hr
    go_enter Tryz.func138,Tryz.ntmps138
    go_wp2_with fail
    go_step3
    go_wp2_with fail
    refine cg fun V hV_V=> ?_
    have hB:=Below.refl w.heap.size w
    refine nea0 hV_V hA hB ?_;clear hA hB;intro z_V hA hB
    clear hV_V
    refine (wIs_calls _ _).mono ?_
    rintro e_q w_q ⟨rfl,rfl⟩
    go_wp2_with fail
    simp only [Exit.noGoto_ret]
    go_ret
    exact ⟨rfl,bel⟩
  | true=>
    rw [h1,if_pos rfl] at hr
    have hb':=Lib.hid hr;clear hr
    go_enter Tryz.func138,Tryz.ntmps138
    go_wp2_with fail
    refine wp_scope_ghost 0 (fun n a' wr=> ∃x y l,(Below w.heap.size w wr∧1≤n∧n≤9∧l=9 - (n:Int)∧Hid (wRankL n s x c y=some r))∧ ∃u4 u5 u6 u7 u8 u10 u11 u12 u13 u14 u15 u16 u17 u18 u19 u20 u21 u22 u23 u24 u25 u26 u27 u28 u29 u30 u31 u32 u33 u34 u35 u36 u37 u38 u39 u40 u41 u42 u43:Value,a'={tmps:= #[(ap:Value),(.int .i64 x:Value),(.int .i64 c:Value),(.int .i64 y:Value),u4,u5,u6,u7,u8,(.int .i64 l:Value),u10,u11,u12,u13,u14,u15,u16,u17,u18,u19,u20,u21,u22,u23,u24,u25,u26,u27,u28,u29,u30,u31,u32,u33,u34,u35,u36,u37,u38,u39,u40,u41,u42,u43],defers:=[]}) (by rfl) ?first ?pass
    case first=>
      intro hrest
      go_wp2_with fail
      refine cg fun V hV_V=> ?_
      have hB:=Below.refl w.heap.size w
      refine nea0 hV_V hA hB ?_;clear hA hB;intro z_V hA hB
      clear hV_V
      refine (wIs_calls _ _).mono ?_
      rintro e_q w_q ⟨rfl,rfl⟩
      go_wp2_with fail
      go_step3
      go_step
      go_step
      refine hrest 9 _ _ ⟨h,i,0,⟨hB,by omega,by omega,by omega,hb'⟩,?_⟩
      exact ⟨_,_,_,_,_,_,_,_,_,_,_,_,_,_,_,_,_,_,_,_,_,_,_,_,_,_,_,_,_,_,_,_,_,_,_,_,_,_,_,rfl⟩
    case pass=>
      rintro n a' wr ⟨x,y,l,⟨hB,hn1,hn2,hl,hb'⟩,u4,u5,u6,u7,u8,u10,u11,u12,u13,u14,u15,u16,u17,u18,u19,u20,u21,u22,u23,u24,u25,u26,u27,u28,u29,u30,u31,u32,u33,u34,u35,u36,u37,u38,u39,u40,u41,u42,u43,rfl⟩ J hJ
      have hA:=hA.below hB
      have z_r:=hB.size
      have hb:=hb'.out
      clear hb'
      obtain ⟨n,rfl⟩: ∃m,n=m+1:=⟨n - 1,by omega⟩
      unfold wRankL at hb
      have e8:(8 - (n:Int))=l:=by omega
      rw [e8] at hb
      obtain ⟨j,hj,hb⟩:=Option.bind_eq_some_iff.1 hb
      have Hj:=Lib.hid hj;clear hj
      have hl':l+1=9 - (n:Int):=by omega
      have hl1:0≤l:=by omega
      have hl2:l≤9:=by omega
      have Hl:=Lib.hid hl'
      clear hl' hl e8
      generalize ho:symBit c l=one at*
      have Ho:=Lib.hid ho;clear ho
      by_cases hj0:0<j
      · rw [if_pos hj0] at hb
        have d4:decide (0<j)=true:=by simpa using hj0
        have Hb:=Lib.hid hb;clear hb hj0
        by_cases hn:1≤n
        · have d3:decide (l+1<9)=true:=by have:=Hl.out;simp;omega
          go_wp2_with fail
          refine cg fun V1 hV_V1=> ?_
          refine nea0 hV_V1 hA hB ?_;clear hA hB;intro z_V1 hA hB
          clear hV_V1
          refine rC (wRow_calls _ _ hA) fun w2 hb_w2=> ?_
          refine bea0 hb_w2 hA hB ?_;clear hb_w2 hA hB;intro z_w2 hA hB
          unfold Nd.val
          go_wp2_with fail
          refine cg fun V2 hV_V2=> ?_
          refine nna0 hV_V2 hA hB ?_;clear hA hB;intro hn_V2 z_V2 hA hB
          obtain ⟨k0,c_k0,o_k0,l_k0V2⟩:=nN hn_V2 hV_V2 (w2.heap.size)
          clear hV_V2 hn_V2
          refine (symBit_calls _ _ _).mono ?_
          rintro e_q w_q ⟨rfl,rfl⟩
          rw [Ho.out]
          go_wp2_with fail
          refine cg fun V3 hV_V3=> ?_
          refine nea1 hV_V3 hA hB k0 ?_;clear hA hB k0 c_k0;intro z_V3 hA hB k0 c_k0
          clear hV_V3
          refine rC (wAlike_calls _ _ _ _ Hj.out _ hA) fun w4 hb_w4=> ?_
          refine bea1 hb_w4 hA hB k0 ?_;clear hb_w4 hA hB k0 c_k0;intro z_w4 hA hB k0 c_k0
          go_wp2_with fail
          refine cg fun V4 hV_V4=> ?_
          refine nea1 hV_V4 hA hB k0 ?_;clear hA hB k0 c_k0;intro z_V4 hA hB k0 c_k0
          clear hV_V4
          refine rC (wKid_calls (s.get x) _ _) fun w5 hb_w5=> ?_
          refine bea1 hb_w5 hA hB k0 ?_;clear hb_w5 hA hB k0 c_k0;intro z_w5 hA hB k0 c_k0
          go_wp2_with fail
          go_step3
          refine ⟨rfl,hJ _ _ ⟨n,by omega,_,_,_,⟨bel,hn,by omega,Hl.out,Hb⟩,?_⟩⟩
          exact ⟨_,_,_,_,_,_,_,_,_,_,_,_,_,_,_,_,_,_,_,_,_,_,_,_,_,_,_,_,_,_,_,_,_,_,_,_,_,_,_,rfl⟩
        · obtain rfl:n=0:=by omega
          have d3:decide (l+1<9)=false:=by have:=Hl.out;simp;omega
          go_wp2_with fail
          refine cg fun V1 hV_V1=> ?_
          refine nea0 hV_V1 hA hB ?_;clear hA hB;intro z_V1 hA hB
          clear hV_V1
          refine rC (wRow_calls _ _ hA) fun w2 hb_w2=> ?_
          refine bea0 hb_w2 hA hB ?_;clear hb_w2 hA hB;intro z_w2 hA hB
          unfold Nd.val
          go_wp2_with fail
          refine cg fun V2 hV_V2=> ?_
          refine nna0 hV_V2 hA hB ?_;clear hA hB;intro hn_V2 z_V2 hA hB
          obtain ⟨k0,c_k0,o_k0,l_k0V2⟩:=nN hn_V2 hV_V2 (w2.heap.size)
          clear hV_V2 hn_V2
          refine (symBit_calls _ _ _).mono ?_
          rintro e_q w_q ⟨rfl,rfl⟩
          rw [Ho.out]
          go_wp2_with fail
          refine cg fun V3 hV_V3=> ?_
          refine nea1 hV_V3 hA hB k0 ?_;clear hA hB k0 c_k0;intro z_V3 hA hB k0 c_k0
          clear hV_V3
          refine rC (wAlike_calls _ _ _ _ Hj.out _ hA) fun w4 hb_w4=> ?_
          refine bea1 hb_w4 hA hB k0 ?_;clear hb_w4 hA hB k0 c_k0;intro z_w4 hA hB k0 c_k0
          go_wp2_with fail
          refine cg fun V4 hV_V4=> ?_
          refine nea1 hV_V4 hA hB k0 ?_;clear hA hB k0 c_k0;intro z_V4 hA hB k0 c_k0
          clear hV_V4
          refine rC (wKid_calls (s.get x) _ _) fun w5 hb_w5=> ?_
          refine bea1 hb_w5 hA hB k0 ?_;clear hb_w5 hA hB k0 c_k0;intro z_w5 hA hB k0 c_k0
          go_wp2_with fail
          simp only [Exit.jump]
          go_ret
          exact ⟨by rw [←Option.some.inj Hb.out];rfl,bel⟩
      · rw [if_neg hj0] at hb
        have d4:decide (0<j)=false:=by simpa using hj0
        obtain rfl:=Option.some.inj hb
        clear hb hj0
        by_cases hn:1≤n
        all_goals
          first
          | have d3:decide (l+1<9)=true:=by have:=Hl.out;simp;omega
          | have d3:decide (l+1<9)=false:=by have:=Hl.out;simp;omega
          go_wp2_with fail
          refine cg fun V1 hV_V1=> ?_
          refine nea0 hV_V1 hA hB ?_;clear hA hB;intro z_V1 hA hB
          clear hV_V1
          refine rC (wRow_calls _ _ hA) fun w2 hb_w2=> ?_
          refine bea0 hb_w2 hA hB ?_;clear hb_w2 hA hB;intro z_w2 hA hB
          unfold Nd.val
          go_wp2_with fail
          refine cg fun V2 hV_V2=> ?_
          refine nna0 hV_V2 hA hB ?_;clear hA hB;intro hn_V2 z_V2 hA hB
          obtain ⟨k0,c_k0,o_k0,l_k0V2⟩:=nN hn_V2 hV_V2 (w2.heap.size)
          clear hV_V2 hn_V2
          refine (symBit_calls _ _ _).mono ?_
          rintro e_q w_q ⟨rfl,rfl⟩
          rw [Ho.out]
          go_wp2_with fail
          refine cg fun V3 hV_V3=> ?_
          refine nea1 hV_V3 hA hB k0 ?_;clear hA hB k0 c_k0;intro z_V3 hA hB k0 c_k0
          clear hV_V3
          refine rC (wAlike_calls _ _ _ _ Hj.out _ hA) fun w4 hb_w4=> ?_
          refine bea1 hb_w4 hA hB k0 ?_;clear hb_w4 hA hB k0 c_k0;intro z_w4 hA hB k0 c_k0
          go_wp2_with fail
          refine cg fun V4 hV_V4=> ?_
          refine nea1 hV_V4 hA hB k0 ?_;clear hA hB k0 c_k0;intro z_V4 hA hB k0 c_k0
          clear hV_V4
          refine rC (wKid_calls (s.get x) _ _) fun w5 hb_w5=> ?_
          refine bea1 hb_w5 hA hB k0 ?_;clear hb_w5 hA hB k0 c_k0;intro z_w5 hA hB k0 c_k0
          go_wp2_with fail
          simp only [Exit.jump]
          go_ret
          exact ⟨rfl,bel⟩
end
section
open Go.RowKit
attribute [local go_sem ↓] Go.wp_at_zero Go.wp_at_succ
attribute [local go_sem] lt_s2 lt_s3 lt_s4
variable {ap : Value} {s : Ar} {O : Nat → Prop}
theorem wBefore_calls (h c r : Int) (hr : wBefore s h c = some r) (w : World) (hA : AP w ap s O) :
    Calls Tryz.prog 137 #[ap, .int .i64 h, .int .i64 c] w fun e w'=>e= .returned (.int .i64 r)∧Below w.heap.size w w':=by
  unfold wBefore at hr
  by_cases h1:c<0
  · have d1:decide (c<0)=true:=by simpa using h1
    rw [if_pos h1] at hr
    cases hr
    clear h1
    go_enter Tryz.func137,Tryz.ntmps137
    go_wp2_with fail
    go_step3
    go_wp2_with fail
    simp only [Exit.noGoto_ret]
    go_ret
    exact ⟨rfl,bel⟩
  · have d1:decide (c<0)=false:=by simpa using h1
    rw [if_neg h1] at hr
    by_cases h2:257≤c
    · have d2:decide (257≤c)=true:=by simpa using h2
      rw [if_pos h2] at hr
      cases hr
      clear h1 h2
      go_enter Tryz.func137,Tryz.ntmps137
      go_wp2_with fail
      go_step3
      go_wp2_with fail
      refine cg fun V hV_V=> ?_
      have hB:=Below.refl w.heap.size w
      refine nea0 hV_V hA hB ?_;clear hA hB;intro z_V hA hB
      clear hV_V
      refine rC (wLen_calls _ _ hA) fun w1 hb_w1=> ?_
      refine bea0 hb_w1 hA hB ?_;clear hb_w1 hA hB;intro z_w1 hA hB
      go_wp2_with fail
      simp only [Exit.noGoto_ret]
      go_ret
      exact ⟨rfl,bel⟩
    · have d2:decide (257≤c)=false:=by simpa using h2
      rw [if_neg h2] at hr
      have hb':=Lib.hid hr;clear hr h1 h2
      go_enter Tryz.func137,Tryz.ntmps137
      go_wp2_with fail
      refine wp_scope_ghost 0 (fun n a' wr=> ∃x z l,(Below w.heap.size w wr∧1≤n∧n≤9∧l=9 - (n:Int)∧Hid (wBeforeL n s x c z=some r))∧ ∃u3 u4 u5 u6 u9 u10 u11 u12 u13 u14 u15 u16 u17 u18 u19 u20 u21 u22 u23 u24 u25 u26 u27 u28 u29 u30 u31 u32 u33 u34 u35 u36 u37 u38 u39 u40 u41 u42 u43 u44 u45 u46 u47 u48 u49 u50:Value,a'={tmps:= #[(ap:Value),(.int .i64 x:Value),(.int .i64 c:Value),u3,u4,u5,u6,(.int .i64 z:Value),(.int .i64 l:Value),u9,u10,u11,u12,u13,u14,u15,u16,u17,u18,u19,u20,u21,u22,u23,u24,u25,u26,u27,u28,u29,u30,u31,u32,u33,u34,u35,u36,u37,u38,u39,u40,u41,u42,u43,u44,u45,u46,u47,u48,u49,u50],defers:=[]}) (by rfl) ?first ?pass
      case first=>
        intro hrest
        go_wp2_with fail
        go_step3
        go_step
        go_step
        refine hrest 9 _ _ ⟨h,0,0,⟨Below.refl _ _,by omega,by omega,by omega,hb'⟩,?_⟩
        exact ⟨_,_,_,_,_,_,_,_,_,_,_,_,_,_,_,_,_,_,_,_,_,_,_,_,_,_,_,_,_,_,_,_,_,_,_,_,_,_,_,_,_,_,_,_,_,_,rfl⟩
      case pass=>
        rintro n a' wr ⟨x,z,l,⟨hB,hn1,hn2,hl,hb'⟩,u3,u4,u5,u6,u9,u10,u11,u12,u13,u14,u15,u16,u17,u18,u19,u20,u21,u22,u23,u24,u25,u26,u27,u28,u29,u30,u31,u32,u33,u34,u35,u36,u37,u38,u39,u40,u41,u42,u43,u44,u45,u46,u47,u48,u49,u50,rfl⟩ J hJ
        have hA:=hA.below hB
        have z_r:=hB.size
        have hb:=hb'.out
        clear hb'
        obtain ⟨n,rfl⟩: ∃m,n=m+1:=⟨n - 1,by omega⟩
        unfold wBeforeL at hb
        have e8:(8 - (n:Int))=l:=by omega
        rw [e8] at hb
        have hl':l+1=9 - (n:Int):=by omega
        have hl1:0≤l:=by omega
        have hl2:l≤9:=by omega
        have Hl:=Lib.hid hl'
        clear hl' hl e8
        cases ho:symBit c l with
        | true=>
          rw [ho,if_pos rfl] at hb
          obtain ⟨j,hj,hb⟩:=Option.bind_eq_some_iff.1 hb
          have Hj:=Lib.hid hj;clear hj
          have Hb:=Lib.hid hb;clear hb
          have Ho:=Lib.hid ho;clear ho
          by_cases hn:1≤n
          all_goals
            first
            | have d3:decide (l+1<9)=true:=by have:=Hl.out;simp;omega
            | have d3:decide (l+1<9)=false:=by have:=Hl.out;simp;omega
            go_wp2_with fail
            refine cg fun V1 hV_V1=> ?_
            refine nea0 hV_V1 hA hB ?_;clear hA hB;intro z_V1 hA hB
            clear hV_V1
            refine rC (wRow_calls _ _ hA) fun w2 hb_w2=> ?_
            refine bea0 hb_w2 hA hB ?_;clear hb_w2 hA hB;intro z_w2 hA hB
            unfold Nd.val
            go_wp2_with fail
            refine cg fun V2 hV_V2=> ?_
            refine nna0 hV_V2 hA hB ?_;clear hA hB;intro hn_V2 z_V2 hA hB
            obtain ⟨k0,c_k0,o_k0,l_k0V2⟩:=nN hn_V2 hV_V2 (w2.heap.size)
            clear hV_V2 hn_V2
            refine (symBit_calls _ _ _).mono ?_
            rintro e_q w_q ⟨rfl,rfl⟩
            rw [Ho.out]
            go_wp2_with fail
            refine wg fun V3 hV_V3=> ?_
            refine nea1 hV_V3 hA hB k0 ?_;clear hA hB k0 c_k0;intro z_V3 hA hB k0 c_k0
            clear hV_V3
            refine dr (fun v=>Sm v V3 (w2.heap.size)∧(V3.heap.size≤v.heap.size)∧AP v ap s O) ⟨fun _=>rfl,Nat.le_refl _,hA.drew⟩ fun V3d hV_V3d hHeld=> ?_
            have v_k0:=c_k0.1
            refine nea1 hV_V3d hA hB k0 ?_;clear hA hB k0 c_k0;intro z_V3d hA hB k0 c_k0
            clear hV_V3d
            refine ta 0 hHeld ?_
            refine ta 1 hHeld ?_
            refine ta 2 hHeld ?_
            refine ta 3 hHeld ?_
            refine ta 4 hHeld ?_
            refine ta 5 hHeld ?_
            refine ta 6 hHeld ?_
            refine ta 7 hHeld ?_
            refine ta 8 hHeld ?_
            refine rd 9 rfl fun K hK=> ?_
            go_simp
            try simp only [IntWalk.i64_left]
            refine rC (bLen_calls _ _ hA) fun w3 hb_w3=> ?_
            refine bea1 hb_w3 hA hB k0 ?_;clear hb_w3 hA hB k0 c_k0;intro z_w3 hA hB k0 c_k0
            refine ho hK ⟨vv c_k0 v_k0,by omega,hA⟩ fun hHeld=> ?_
            clear hK K
            refine rd 10 rfl fun K hK=> ?_
            go_simp
            try simp only [IntWalk.i64_left]
            refine rC (wAlike_calls _ _ _ _ Hj.out _ hA) fun w4 hb_w4=> ?_
            refine bea1 hb_w4 hA hB k0 ?_;clear hb_w4 hA hB k0 c_k0;intro z_w4 hA hB k0 c_k0
            refine ho hK ⟨vv c_k0 v_k0,by omega,hA⟩ fun hHeld=> ?_
            clear hK K
            refine ta 11 hHeld ?_
            refine rd 12 rfl fun K hK=> ?_
            go_simp
            refine ho hK hHeld fun hHeld=> ?_
            clear hK K
            refine wd ?_
            go_wp2_with fail
            refine cg fun V4 hV_V4=> ?_
            refine nea1 hV_V4 hA hB k0 ?_;clear hA hB k0 c_k0;intro z_V4 hA hB k0 c_k0
            clear hV_V4
            refine rC (wKid_calls (s.get x) _ _) fun w5 hb_w5=> ?_
            refine bea1 hb_w5 hA hB k0 ?_;clear hb_w5 hA hB k0 c_k0;intro z_w5 hA hB k0 c_k0
            go_wp2_with fail
            first
            | (go_step3;refine ⟨rfl,hJ _ _ ⟨n,by omega,_,_,_,⟨bel,hn,by omega,Hl.out,Hb⟩,?_⟩⟩;exact ⟨_,_,_,_,_,_,_,_,_,_,_,_,_,_,_,_,_,_,_,_,_,_,_,_,_,_,_,_,_,_,_,_,_,_,_,_,_,_,_,_,_,_,_,_,_,_,rfl⟩)
            | (simp only [Exit.jump];go_ret;obtain rfl:n=0:=(by omega);exact ⟨by first|(rw [←Option.some.inj Hb.out];done)|(rw [←Option.some.inj Hb.out];rfl)|(have e:=Option.some.inj Hb.out;subst e;rfl),bel⟩)
        | false=>
          rw [ho,if_neg (by decide)] at hb
          have Hb:=Lib.hid hb;clear hb
          have Ho:=Lib.hid ho;clear ho
          by_cases hn:1≤n
          all_goals
            first
            | have d3:decide (l+1<9)=true:=by have:=Hl.out;simp;omega
            | have d3:decide (l+1<9)=false:=by have:=Hl.out;simp;omega
            go_wp2_with fail
            refine cg fun V1 hV_V1=> ?_
            refine nea0 hV_V1 hA hB ?_;clear hA hB;intro z_V1 hA hB
            clear hV_V1
            refine rC (wRow_calls _ _ hA) fun w2 hb_w2=> ?_
            refine bea0 hb_w2 hA hB ?_;clear hb_w2 hA hB;intro z_w2 hA hB
            unfold Nd.val
            go_wp2_with fail
            refine cg fun V2 hV_V2=> ?_
            refine nna0 hV_V2 hA hB ?_;clear hA hB;intro hn_V2 z_V2 hA hB
            obtain ⟨k0,c_k0,o_k0,l_k0V2⟩:=nN hn_V2 hV_V2 (w2.heap.size)
            clear hV_V2 hn_V2
            refine (symBit_calls _ _ _).mono ?_
            rintro e_q w_q ⟨rfl,rfl⟩
            rw [Ho.out]
            go_wp2_with fail
            refine cg fun V4 hV_V4=> ?_
            refine nea1 hV_V4 hA hB k0 ?_;clear hA hB k0 c_k0;intro z_V4 hA hB k0 c_k0
            clear hV_V4
            refine rC (wKid_calls (s.get x) _ _) fun w5 hb_w5=> ?_
            refine bea1 hb_w5 hA hB k0 ?_;clear hb_w5 hA hB k0 c_k0;intro z_w5 hA hB k0 c_k0
            go_wp2_with fail
            first
            | (go_step3;refine ⟨rfl,hJ _ _ ⟨n,by omega,_,_,_,⟨bel,hn,by omega,Hl.out,Hb⟩,?_⟩⟩;exact ⟨_,_,_,_,_,_,_,_,_,_,_,_,_,_,_,_,_,_,_,_,_,_,_,_,_,_,_,_,_,_,_,_,_,_,_,_,_,_,_,_,_,_,_,_,_,_,rfl⟩)
            | (simp only [Exit.jump];go_ret;obtain rfl:n=0:=(by omega);exact ⟨by first|(rw [←Option.some.inj Hb.out];done)|(rw [←Option.some.inj Hb.out];rfl)|(have e:=Option.some.inj Hb.out;subst e;rfl),bel⟩)
end
section
open Go.RowKit
attribute [local go_sem ↓] Go.wp_at_zero Go.wp_at_succ
attribute [local go_sem] lt_s2 lt_s3 lt_s4
attribute [local go_sem] idx0 idx1 idx2 idx3
variable {ap : Value} {s : Ar} {O : Nat → Prop}
def Parts.val (p:Parts):Value:= .agg #[.int .i64 p.wave, .int .i64 p.marks, .int .i64 p.spots, .int .i64 p.table]
theorem vOf_calls (h : Int) (w : World) (hA : AP w ap s O) :
    Calls Tryz.prog 32 #[ap, .int .i64 h] w fun e w'=>e= .returned (.tuple #[(vOf s h).val, .bool (vIs s h)])∧Below w.heap.size w w':=by
  unfold Parts.val
  by_cases h1:h=0
  · have E1:vOf s h=Parts.zero:=by unfold vOf;rw [if_neg (by simp [h1])]
    have E2:vIs s h=true:=by unfold vIs;simp [h1]
    rw [E1,E2]
    have d1:(h==0)=true:=by simpa using h1
    clear h1 E1 E2
    go_enter Tryz.func32,Tryz.ntmps32
    go_wp2_with fail
    refine bodyPost_ret (v:= .tuple #[.agg #[.int .i64 0, .int .i64 0, .int .i64 0, .int .i64 0], .bool true]) (by simp [results,Tryz.results32,go_sem, *]) rfl ⟨rfl,bel⟩
  · have d1:(h==0)=false:=by simpa using h1
    cases h2:s.has h with
    | false=>
      have E2:vIs s h=false:=by unfold vIs;simp [h1,h2]
      have E1:vOf s h=Parts.zero:=by unfold vOf;rw [if_neg (by simp [E2])]
      rw [E1,E2]
      clear h1 E1 E2
      go_enter Tryz.func32,Tryz.ntmps32
      go_wp2_with fail
      refine cg fun V hV_V=> ?_
      have hB:=Below.refl w.heap.size w
      refine nna0 hV_V hA hB ?_;clear hA hB;intro hn_V z_V hA hB
      obtain ⟨kr,c_kr,o_kr,l_krV⟩:=nN hn_V hV_V (w.heap.size)
      clear hV_V hn_V
      refine rC (aget_calls _ _ hA) fun W1 hb_W1=> ?_
      refine bea1 hb_W1 hA hB kr ?_;clear hb_W1 hA hB kr c_kr;intro z_W1 hA hB kr c_kr
      rw [h2]
      unfold Nd.val
      go_wp2_with fail
      refine bodyPost_ret (v:= .tuple #[.agg #[.int .i64 0, .int .i64 0, .int .i64 0, .int .i64 0], .bool false]) (by simp [results,Tryz.results32,go_sem, *]) rfl ⟨rfl,bel⟩
    | true=>
      by_cases h3:s.cnt h=0
      · have E2:vIs s h=false:=by unfold vIs;simp [h1,h2,h3]
        have E1:vOf s h=Parts.zero:=by unfold vOf;rw [if_neg (by simp [E2])]
        rw [E1,E2]
        have d3:(s.cnt h==0)=true:=by simpa using h3
        clear h1 E1 E2 h3
        go_enter Tryz.func32,Tryz.ntmps32
        go_wp2_with fail
        refine cg fun V hV_V=> ?_
        have hB:=Below.refl w.heap.size w
        refine nna0 hV_V hA hB ?_;clear hA hB;intro hn_V z_V hA hB
        obtain ⟨kr,c_kr,o_kr,l_krV⟩:=nN hn_V hV_V (w.heap.size)
        clear hV_V hn_V
        refine rC (aget_calls _ _ hA) fun W1 hb_W1=> ?_
        refine bea1 hb_W1 hA hB kr ?_;clear hb_W1 hA hB kr c_kr;intro z_W1 hA hB kr c_kr
        rw [h2]
        unfold Nd.val
        go_wp2_with fail
        refine cg fun V1 hV_V1=> ?_
        refine nna1 hV_V1 hA hB kr ?_;clear hA hB kr c_kr;intro hn_V1 z_V1 hA hB kr c_kr
        obtain ⟨kn,c_kn,o_kn,l_knV1⟩:=nN hn_V1 hV_V1 (W1.heap.size)
        clear hV_V1 hn_V1
        refine (count_calls _ _ hA).mono ?_
        rintro e_q w_q ⟨rfl,rfl⟩
        go_wp2_with fail
        refine bodyPost_ret (v:= .tuple #[.agg #[.int .i64 0, .int .i64 0, .int .i64 0, .int .i64 0], .bool false]) (by simp [results,Tryz.results32,go_sem, *]) rfl ⟨rfl,bel⟩
      · have d3:(s.cnt h==0)=false:=by simpa using h3
        by_cases h4:(s.get h).tag=6
        · have E2:vIs s h=true:=by unfold vIs;simp [h1,h2,h3,h4]
          have E1:vOf s h=⟨(s.get h).k0,(s.get h).k1,(s.get h).k2,(s.get h).k3⟩:=by unfold vOf;rw [if_pos ⟨h1,E2⟩]
          rw [E1,E2]
          have d4:((s.get h).tag !=6)=false:=by simp [h4]
          clear h1 E1 E2 h3 h4
          go_enter Tryz.func32,Tryz.ntmps32
          go_wp2_with fail
          refine cg fun V hV_V=> ?_
          have hB:=Below.refl w.heap.size w
          refine nna0 hV_V hA hB ?_;clear hA hB;intro hn_V z_V hA hB
          obtain ⟨kr,c_kr,o_kr,l_krV⟩:=nN hn_V hV_V (w.heap.size)
          clear hV_V hn_V
          refine rC (aget_calls _ _ hA) fun W1 hb_W1=> ?_
          refine bea1 hb_W1 hA hB kr ?_;clear hb_W1 hA hB kr c_kr;intro z_W1 hA hB kr c_kr
          rw [h2]
          unfold Nd.val
          go_wp2_with fail
          refine cg fun V1 hV_V1=> ?_
          refine nna1 hV_V1 hA hB kr ?_;clear hA hB kr c_kr;intro hn_V1 z_V1 hA hB kr c_kr
          obtain ⟨kn,c_kn,o_kn,l_knV1⟩:=nN hn_V1 hV_V1 (W1.heap.size)
          clear hV_V1 hn_V1
          refine (count_calls _ _ hA).mono ?_
          rintro e_q w_q ⟨rfl,rfl⟩
          go_wp2_with fail
          refine bodyPost_ret (v:= .tuple #[.agg #[.int .i64 (s.get h).k0, .int .i64 (s.get h).k1, .int .i64 (s.get h).k2, .int .i64 (s.get h).k3], .bool true]) (by simp [results,Tryz.results32,go_sem, *]) rfl ⟨rfl,bel⟩
        · have E2:vIs s h=false:=by unfold vIs;simp [h1,h2,h3,h4]
          have E1:vOf s h=Parts.zero:=by unfold vOf;rw [if_neg (by simp [E2])]
          rw [E1,E2]
          have d4:((s.get h).tag !=6)=true:=by simp [h4]
          clear h1 E1 E2 h3 h4
          go_enter Tryz.func32,Tryz.ntmps32
          go_wp2_with fail
          refine cg fun V hV_V=> ?_
          have hB:=Below.refl w.heap.size w
          refine nna0 hV_V hA hB ?_;clear hA hB;intro hn_V z_V hA hB
          obtain ⟨kr,c_kr,o_kr,l_krV⟩:=nN hn_V hV_V (w.heap.size)
          clear hV_V hn_V
          refine rC (aget_calls _ _ hA) fun W1 hb_W1=> ?_
          refine bea1 hb_W1 hA hB kr ?_;clear hb_W1 hA hB kr c_kr;intro z_W1 hA hB kr c_kr
          rw [h2]
          unfold Nd.val
          go_wp2_with fail
          refine cg fun V1 hV_V1=> ?_
          refine nna1 hV_V1 hA hB kr ?_;clear hA hB kr c_kr;intro hn_V1 z_V1 hA hB kr c_kr
          obtain ⟨kn,c_kn,o_kn,l_knV1⟩:=nN hn_V1 hV_V1 (W1.heap.size)
          clear hV_V1 hn_V1
          refine (count_calls _ _ hA).mono ?_
          rintro e_q w_q ⟨rfl,rfl⟩
          go_wp2_with fail
          refine bodyPost_ret (v:= .tuple #[.agg #[.int .i64 0, .int .i64 0, .int .i64 0, .int .i64 0], .bool false]) (by simp [results,Tryz.results32,go_sem, *]) rfl ⟨rfl,bel⟩
theorem vDocs_calls (h : Int) (w : World) (hA : AP w ap s O) :
    Calls Tryz.prog 46 #[ap, .int .i64 h] w fun e w'=>e= .returned (.int .i64 (vDocs s h))∧Below w.heap.size w w':=by
  go_enter Tryz.func46,Tryz.ntmps46
  go_wp2_with fail
  refine cg fun V hV_V=> ?_
  have hB:=Below.refl w.heap.size w
  refine nea0 hV_V hA hB ?_;clear hA hB;intro z_V hA hB
  clear hV_V
  refine rC (vOf_calls _ _ hA) fun W1 hb_W1=> ?_
  refine bea0 hb_W1 hA hB ?_;clear hb_W1 hA hB;intro z_W1 hA hB
  unfold Parts.val
  go_wp2_with fail
  refine cg fun V1 hV_V1=> ?_
  refine nna0 hV_V1 hA hB ?_;clear hA hB;intro hn_V1 z_V1 hA hB
  obtain ⟨kp,c_kp,o_kp,l_kpV1⟩:=nN hn_V1 hV_V1 (W1.heap.size)
  clear hV_V1 hn_V1
  refine rC (tLen_calls _ _ hA) fun W2 hb_W2=> ?_
  refine bea1 hb_W2 hA hB kp ?_;clear hb_W2 hA hB kp c_kp;intro z_W2 hA hB kp c_kp
  go_wp2_with fail
  go_ret
  exact ⟨rfl,hB⟩
end
section
open Go.RowKit
attribute [local go_sem ↓] Go.wp_at_zero Go.wp_at_succ
variable {ap : Value} {s : Ar} {O : Nat → Prop}
structure NB (w:World) (bo:Nat) (ap:Value) (s:Ar) (ok:Bool) (O:Nat→Prop):Prop where
  hA:AP w ap s O
  blk:w.heap[bo]? =some (.cells #[.bool ok] 4 (0,0))
  no: ¬O bo
theorem next_calls (bo ba : Nat) (ok : Bool) (h : Int) (r : Int × Int × Ar) (w : World) (hA : AP w ap r.2.2 O) (ko : w.heap[bo]? = some (.cells #[.bool ok] 4 (0, 0))) (ka : w.heap[ba]? = some (.cells #[ap] 25 (0, 0))) (o_ko : ¬ O bo) (o_ka : ¬ O ba) (hne : ba ≠ bo) :
    Calls Tryz.prog 76 #[.int .i64 h, .int .i64 r.1, .int .i64 r.2.1, .pointer (some ⟨bo,0,none⟩), .pointer (some ⟨ba,0,none⟩)] w fun e w'=>e= .returned (.int .i64 (nextA ok h r).1)∧ ∃O',NB w' bo ap (nextA ok h r).2.2 (nextA ok h r).2.1 O'∧Fr (oneX bo) O O' w w':=by
  by_cases h1:r.2.1=0
  · have d1:(r.2.1 !=0)=false:=by simp [h1]
    by_cases h2:h=0
    · have d2:(h !=0)=false:=by simp [h2]
      have E:Hid (nextA ok h r=(r.1,ok,r.2.2)):=Lib.hid (by unfold nextA;rw [if_pos h1,if_pos h2])
      clear h1 h2
      go_enter Tryz.func76,Tryz.ntmps76
      go_wp2_with fail
      go_ret
      rw [E.out]
      exact ⟨rfl,O,⟨hA,ko,o_ko⟩,Fr.refl _ _ _⟩
    · have d2:(h !=0)=true:=by simp [h2]
      have E:Hid (nextA ok h r=(r.1,ok,r.2.2.drop h)):=Lib.hid (by unfold nextA;rw [if_pos h1,if_neg h2])
      clear h1 h2
      go_enter Tryz.func76,Tryz.ntmps76
      have c_ko:=f3 ko;have l_kow:=lt_of ko
      have c_ka:=f3 ka;have l_kaw:=lt_of ka
      go_wp2_with fail
      refine cg fun V hV_V=> ?_
      have hF:=Fr.refl ((oneX bo)) O w
      refine nef2 hV_V hA hF ko ka ?_;clear hA hF ko ka c_ko c_ka;intro z_V hA hF ko c_ko ka c_ka
      clear hV_V
      refine wC (drop_calls _ _ hA) fun W1 O1 hA_W1 hf_W1=> ?_
      refine wif2 hf_W1 hF ko o_ko ka o_ka ?_;clear hA hF ko o_ko ka o_ka c_ko c_ka hf_W1;intro z_W1 hF ko c_ko o_ko ka c_ka o_ka;have hA:=hA_W1;clear hA_W1
      go_wp2_with fail
      go_ret
      rw [E.out]
      exact ⟨rfl,O1,⟨hA,ko,o_ko⟩,hF⟩
  · have d1:(r.2.1 !=0)=true:=by simp [h1]
    have E:Hid (nextA ok h r=(h,false,r.2.2)):=Lib.hid (by unfold nextA;rw [if_neg h1])
    clear h1
    go_enter Tryz.func76,Tryz.ntmps76
    have c_ko:=f3 ko;have l_kow:=lt_of ko
    have c_ka:=f3 ka;have l_kaw:=lt_of ka
    go_wp2_with fail
    go_ret
    rw [E.out]
    refine ⟨rfl,O,⟨hA.set o_ko _,?_,o_ko⟩,(Fr.refl (oneX bo) O w).set (q:=⟨bo,0,none⟩) (.inr (by show oneX bo bo;rfl)) _⟩
    rw [blk_set,ko];rfl
theorem next_t (bo ba : Nat) (ok : Bool) (h : Int) (r : Int × Int × Ar) (t : Int × Bool × Ar) (ht : nextA ok h r = t) (w : World) (hA : AP w ap r.2.2 O) (ko : w.heap[bo]? = some (.cells #[.bool ok] 4 (0, 0))) (ka : w.heap[ba]? = some (.cells #[ap] 25 (0, 0))) (o_ko : ¬ O bo) (o_ka : ¬ O ba) (hne : ba ≠ bo) :
    Calls Tryz.prog 76 #[.int .i64 h, .int .i64 r.1, .int .i64 r.2.1, .pointer (some ⟨bo,0,none⟩), .pointer (some ⟨ba,0,none⟩)] w fun e w'=>e= .returned (.int .i64 t.1)∧ ∃O',NB w' bo ap t.2.2 t.2.1 O'∧Fr (oneX bo) O O' w w':=by
  subst ht;exact next_calls bo ba ok h r w hA ko ka o_ko o_ka hne
theorem Fr.trans_own {X Y O O' O'':Nat→Prop} {a b c:World} (h:Fr X O O' a b) (k:Fr Y O' O'' b c) (hY: ∀x,Y x→a.heap.size≤x):Fr X O O'' a c:=by
  refine ⟨k.os.trans h.os,k.tape.trans h.tape,k.output.trans h.output,Nat.le_trans h.size k.size,fun x hx ho hX=> ?_,fun x hx=> ?_⟩
  · refine (k.block x (Nat.lt_of_lt_of_le hx h.size) (fun ho'=> ?_) (fun e=> ?_)).trans (h.block x hx ho hX)
    · rcases h.own x ho' with g|g
      · exact ho g
      · omega
    · have:=hY x e;omega
  · rcases k.own x hx with g|g
    · exact h.own x g
    · exact .inr (Nat.le_trans h.size g)
theorem vMake_calls (p : Parts) (w : World) (hA : AP w ap s O) :
    Calls Tryz.prog 34 #[ap,p.val] w fun e w'=>e= .returned (.tuple #[.int .i64 (vMake s p).1, .int .i64 (vMake s p).2.1])∧Did noX ap (vMake s p).2.2 O w w':=by
  unfold Parts.val
  by_cases h:p.wave=0∧p.marks=0∧p.spots=0∧p.table=0
  · obtain ⟨a,b,c,d⟩:=p
    obtain ⟨rfl,rfl,rfl,rfl⟩:=h
    have E:Hid (vMake s ⟨0,0,0,0⟩=(0,0,s)):=Lib.hid (by unfold vMake;rw [if_pos ⟨rfl,rfl,rfl,rfl⟩])
    go_enter Tryz.func34,Tryz.ntmps34
    go_wp2_with fail
    go_ret2
    rw [E.out]
    exact ⟨rfl,O,by first|exact hA|exact hA.alloc _,by first|exact Fr.refl _ _ _|exact (Fr.refl _ _ _).alloc _⟩
  · have E:Hid (vMake s p=s.make ⟨6,p.wave,p.marks,p.spots,p.table,0,0⟩):=Lib.hid (by unfold vMake;rw [if_neg h])
    obtain ⟨f1,f2,f3,f4,hf⟩: ∃f1 f2 f3 f4:Bool,(p.wave==0)=f1∧(p.marks==0)=f2∧(p.spots==0)=f3∧(p.table==0)=f4:=⟨_,_,_,_,rfl,rfl,rfl,rfl⟩
    obtain ⟨g1,g2,g3,g4⟩:=hf
    have hn: ¬(f1=true∧f2=true∧f3=true∧f4=true):=by
      rintro ⟨rfl,rfl,rfl,rfl⟩
      exact h ⟨by simpa using g1,by simpa using g2,by simpa using g3,by simpa using g4⟩
    clear h
    cases f1<;>cases f2<;>cases f3<;>cases f4<;>first|exact absurd ⟨rfl,rfl,rfl,rfl⟩ hn|skip
    all_goals
      clear hn
      go_enter Tryz.func34,Tryz.ntmps34
      go_wp2_with fail
      refine cg fun V hV_V=> ?_
      have hF:=Fr.refl (noX) O w
      refine nnf0 hV_V hA hF ?_;clear hA hF;intro hn_V z_V hA hF
      obtain ⟨kp,c_kp,o_kp,l_kpV⟩:=nN hn_V hV_V (w.heap.size)
      clear hV_V hn_V
      refine wC (make_calls (⟨6,p.wave,p.marks,p.spots,p.table,0,0⟩:Nd) U64.zero _ hA) fun W1 O1 hA_W1 hf_W1=> ?_
      refine wif1 hf_W1 hF kp o_kp ?_;clear hA hF kp o_kp c_kp hf_W1;intro z_W1 hF kp c_kp o_kp;have hA:=hA_W1;clear hA_W1
      go_wp2_with fail
      go_ret2
      rw [E.out]
      exact ⟨rfl,O1,hA,hF⟩
end
section
open Go.RowKit
attribute [local go_sem ↓] Go.wp_at_zero Go.wp_at_succ
attribute [local go_sem] lt_s2 lt_s3 lt_s4
theorem made_ofF (c:Array Value) (N:Nat) (f:Nat→Value) (h: ∀i,i<N→c[i % c.size]! =f i):madeCells c N=ofF N f:=by
  apply Array.ext
  · rw [size_madeCells,ofF_size]
  · intro i h1 h2
    rw [size_madeCells] at h1
    simp only [madeCells,ofF,Array.getElem_map,Array.getElem_range,Array.getElem_ofFn]
    exact h i h1
theorem make_nodes (n:Nat) (h2:n≤6000) (w:World):(Instr.makeSlice 127 (.int .i64 ((n:Int)+1)) (.int .i64 ((n:Int)+1))).run Tryz.prog w= .ok (.slice (some ⟨w.heap.size,0,none⟩) (n+1) (n+1)) (w.alloc (.cells (ofF ((n+1)*7) (nodeF (Ar.new n))) 171 (0,0))):=by
  obtain ⟨i0,hi0,hz0,hz1,hz2⟩:=info_parts (P:=Tryz.prog) (e:=171) (z:= .agg #[.int .i64 0, .int .i64 0, .int .i64 0, .int .i64 0, .int .i64 0, .int .u64 0, .int .u64 0]) (size:=7) (bytes:=56) (by kernel_rfl)
  have h:=run_makeSlice (P:=Tryz.prog) w 127 171 i0 _ Tryz.underlying127 hi0 hz0 .i64 .i64 ((n:Int)+1) ((n:Int)+1) (by omega) (by omega) (by rw [hz1];omega) (by rw [hz2];omega) (by omega)
  rw [h,hz1,show ((n:Int)+1).toNat=n+1 by omega,made_ofF _ _ (nodeF (Ar.new n))]
  intro i _
  show (#[Value.int .i64 0, .int .i64 0, .int .i64 0, .int .i64 0, .int .i64 0, .int .u64 0, .int .u64 0]:Array Value)[i % 7]! =Nd.zero.cell (i % 7)
  rcases (show i % 7=0∨i % 7=1∨i % 7=2∨i % 7=3∨i % 7=4∨i % 7=5∨i % 7=6 by omega) with h|h|h|h|h|h|h<;>rw [h]<;>rfl
theorem make_counts (n:Nat) (h2:n≤6000) (w:World):(Instr.makeSlice 43 (.int .i64 ((n:Int)+1)) (.int .i64 ((n:Int)+1))).run Tryz.prog w= .ok (.slice (some ⟨w.heap.size,0,none⟩) (n+1) (n+1)) (w.alloc (.cells (ofF (n+1) (countF (Ar.new n))) 3 (0,0))):=by
  obtain ⟨i0,hi0,hz0,hz1,hz2⟩:=info_parts (P:=Tryz.prog) (e:=3) (z:= .int .i64 0) (size:=1) (bytes:=8) (by kernel_rfl)
  have h:=run_makeSlice (P:=Tryz.prog) w 43 3 i0 _ Tryz.underlying43 hi0 hz0 .i64 .i64 ((n:Int)+1) ((n:Int)+1) (by omega) (by omega) (by rw [hz1];omega) (by rw [hz2];omega) (by omega)
  rw [h,hz1,show ((n:Int)+1).toNat=n+1 by omega,Nat.mul_one,made_ofF _ _ (countF (Ar.new n))]
  intro i _
  show (#[Value.int .i64 0]:Array Value)[i % 1]! = .int .i64 0
  rw [Nat.mod_one];rfl
theorem make_useds (n:Nat) (h2:n≤6000) (w:World):(Instr.makeSlice 128 (.int .i64 ((n:Int)+1)) (.int .i64 ((n:Int)+1))).run Tryz.prog w= .ok (.slice (some ⟨w.heap.size,0,none⟩) (n+1) (n+1)) (w.alloc (.cells (ofF (n+1) (usedF (Ar.new n))) 4 (0,0))):=by
  obtain ⟨i0,hi0,hz0,hz1,hz2⟩:=info_parts (P:=Tryz.prog) (e:=4) (z:= .bool false) (size:=1) (bytes:=1) (by kernel_rfl)
  have h:=run_makeSlice (P:=Tryz.prog) w 128 4 i0 _ Tryz.underlying128 hi0 hz0 .i64 .i64 ((n:Int)+1) ((n:Int)+1) (by omega) (by omega) (by rw [hz1];omega) (by rw [hz2];omega) (by omega)
  rw [h,hz1,show ((n:Int)+1).toNat=n+1 by omega,Nat.mul_one,made_ofF _ _ (usedF (Ar.new n))]
  intro i _
  show (#[Value.bool false]:Array Value)[i % 1]! = .bool false
  rw [Nat.mod_one];rfl
theorem ap_new {W w : World} {n p nb cb ub : Nat} (h2 : n ≤ 6000) (hp : W.heap[p]? = some (.cells (ArC n nb cb ub (.slice none 0 0) 0 0) 130 (0, 0))) (hn : W.heap[nb]? = some (.cells (ofF ((n + 1) * 7) (nodeF (Ar.new n))) 171 (0, 0)))
    (hc:W.heap[cb]? =some (.cells (ofF (n+1) (countF (Ar.new n))) 3 (0,0))) (hu:W.heap[ub]? =some (.cells (ofF (n+1) (usedF (Ar.new n))) 4 (0,0))) (b1:w.heap.size≤p) (b2:w.heap.size≤nb) (b3:w.heap.size≤cb) (b4:w.heap.size≤ub):
    ∃O,AP W (.pointer (some ⟨p,0,none⟩)) (Ar.new n) O∧(∀b,O b→w.heap.size≤b):=by
  refine ⟨fun b=>b=p∨b=nb∨b=cb∨b=ub,⟨Ar.Wq.new n h2, .inr ⟨p,nb,cb,ub, .slice none 0 0,rfl,⟨hp,hn,hc,hu, .inl ⟨rfl,rfl⟩,by simp [Value.ownBlock], .inl rfl, .inr (.inl rfl), .inr (.inr (.inl rfl)), .inr (.inr (.inr rfl)),by simp [Value.ownBlock],?_⟩⟩⟩,?_⟩
  · rintro b (rfl|rfl|rfl|rfl)
    · exact lt_of hp
    · exact lt_of hn
    · exact lt_of hc
    · exact lt_of hu
  · rintro b (rfl|rfl|rfl|rfl)<;>assumption
theorem new_calls (n : Nat) (h1 : 1 ≤ n) (h2 : n ≤ 6000) (w : World) :
    Calls Tryz.prog 16 #[.int .i64 (n:Int)] w fun e w'=> ∃p O,e= .returned (.pointer (some ⟨p,0,none⟩))∧AP w' (.pointer (some ⟨p,0,none⟩)) (Ar.new n) O∧(∀b,O b→w.heap.size≤b)∧Below w.heap.size w w':=by
  have d1:decide ((n:Int)<1)=false:=by simp;omega
  have d2:decide ((6000:Int)<n)=false:=by simp;omega
  have m2:=fun w=>make_nodes n h2 w
  have m5:=fun w=>make_counts n h2 w
  have m8:=fun w=>make_useds n h2 w
  have H2:=Lib.hid h2
  go_enter Tryz.func16,Tryz.ntmps16
  go_wp2_with fail
  refine wg fun V hV_V=> ?_
  have hB:=Below.refl w.heap.size w
  refine neb0 hV_V hB ?_;clear hB;intro z_V hB
  clear hV_V
  refine dr (fun v=>(V.heap.size≤v.heap.size)∧True) ⟨Nat.le_refl _,trivial⟩ fun Vd hV_Vd hHeld=> ?_
  refine neb0 hV_Vd hB ?_;clear hB;intro z_Vd hB
  clear hV_Vd
  refine ta 0 hHeld ?_
  refine ta 1 hHeld ?_
  refine ta 3 hHeld ?_
  refine ta 4 hHeld ?_
  refine ta 6 hHeld ?_
  refine ta 7 hHeld ?_
  have ew:wrap64 ((n:Int)+1)=(n:Int)+1:=IntWalk.wrap64_in _ (by omega)
  simp only [ew]
  clear ew
  have hB1:=hB
  clear hB
  refine wpAnyH_ready (rs:=[2,5,8]) (by kernel_rfl) (by simp) ?_
  refine ready_at rfl (fun K hK=> ?_) ?_
  · go_simp
    refine gen_app (K:=K) (fun D1 e1=> ?_)
    have k1:=(congrArg (fun v:World=>v.heap[Vd.heap.size]?) e1).trans (blk_new _ _ _ rfl)
    try dsimp only at k1
    have b1:Below w.heap.size w D1:=by rw [e1];exact hB1.alloc hB1.size _
    have s1:D1.heap.size=Vd.heap.size+1:=by rw [e1,siz_alloc]
    clear e1
    refine hK.out _ _ ⟨by omega,trivial⟩ (fun hHeld=> ?_)
    clear hK K
    try simp only [PT]
    refine wpAnyH_ready (rs:=[5,8]) (by kernel_rfl) (by simp) ?_
    refine ready_at rfl (fun K hK=> ?_) ?_
    · go_simp
      refine gen_app (K:=K) (fun D2 e2=> ?_)
      have k2:=(congrArg (fun v:World=>v.heap[D1.heap.size]?) e2).trans (blk_new _ _ _ rfl)
      try dsimp only at k2
      have k1':=(congrArg (fun v:World=>v.heap[Vd.heap.size]?) e2).trans ((blk_old _ _ _ (by omega)).trans k1)
      try dsimp only at k1'
      clear k1;have k1:=k1';clear k1'
      have b2:Below w.heap.size w D2:=by rw [e2];exact b1.alloc b1.size _
      have s2:D2.heap.size=D1.heap.size+1:=by rw [e2,siz_alloc]
      clear e2
      refine hK.out _ _ ⟨by omega,trivial⟩ (fun hHeld=> ?_)
      clear hK K
      try simp only [PT]
      refine wpAnyH_ready (rs:=[8]) (by kernel_rfl) (by simp) ?_
      refine ready_at rfl (fun K hK=> ?_) AllReadyH.nil
      go_simp
      refine gen_app (K:=K) (fun D3 e3=> ?_)
      have k3:=(congrArg (fun v:World=>v.heap[D2.heap.size]?) e3).trans (blk_new _ _ _ rfl)
      try dsimp only at k3
      have k1':=(congrArg (fun v:World=>v.heap[Vd.heap.size]?) e3).trans ((blk_old _ _ _ (by omega)).trans k1)
      try dsimp only at k1'
      clear k1;have k1:=k1';clear k1'
      have k2':=(congrArg (fun v:World=>v.heap[D1.heap.size]?) e3).trans ((blk_old _ _ _ (by omega)).trans k2)
      try dsimp only at k2'
      clear k2;have k2:=k2';clear k2'
      have b3:Below w.heap.size w D3:=by rw [e3];exact b2.alloc b2.size _
      have s3:D3.heap.size=D2.heap.size+1:=by rw [e3,siz_alloc]
      clear e3
      refine hK.out _ _ ⟨by omega,trivial⟩ (fun hHeld=> ?_)
      clear hK K
      try simp only [PT]
      clear m2 m5 m8
      refine ta 9 hHeld ?_
      refine wpAnyH_ready (rs:=[10]) (by kernel_rfl) (by simp) ?_
      refine ready_at rfl (fun K hK=> ?_) AllReadyH.nil
      go_simp
      refine gen_app (K:=K) (fun D4 e4=> ?_)
      have q4:=(congrArg (fun v:World=>v.heap[D3.heap.size]?) e4).trans (blk_new _ _ _ rfl)
      try dsimp only at q4
      have q1:=(congrArg (fun v:World=>v.heap[Vd.heap.size]?) e4).trans ((blk_old _ _ _ (by omega)).trans k1)
      try dsimp only at q1
      have q2:=(congrArg (fun v:World=>v.heap[D1.heap.size]?) e4).trans ((blk_old _ _ _ (by omega)).trans k2)
      try dsimp only at q2
      have q3:=(congrArg (fun v:World=>v.heap[D2.heap.size]?) e4).trans ((blk_old _ _ _ (by omega)).trans k3)
      try dsimp only at q3
      have b4:Below w.heap.size w D4:=by rw [e4];exact b3.alloc b3.size _
      have s4:D3.heap.size≤D4.heap.size:=by rw [e4,siz_alloc];omega
      clear e4 k1 k2 k3
      refine hK.out _ _ ⟨by omega,trivial⟩ (fun hHeld=> ?_)
      clear hK K
      try simp only [PT]
      refine rd 11 rfl fun K hK=> ?_
      go_simp
      refine ho hK hHeld fun hHeld=> ?_
      clear hK K
      refine wd ?_
      go_wp2_with fail
      go_ret
      simp only [s1] at q2
      simp only [s2,s1] at q3
      simp only [s3,s2,s1] at q4
      obtain ⟨O,h3,h4⟩:=ap_new (w:=w) H2.out q4 q1 q2 q3 (by omega) (by omega) (by omega) (by omega)
      exact ⟨_,O,rfl,h3,h4,b4⟩
    refine ready_at rfl (fun K hK=> ?_) AllReadyH.nil
    go_simp
    refine gen_app (K:=K) (fun D2 e2=> ?_)
    have k2:=(congrArg (fun v:World=>v.heap[D1.heap.size]?) e2).trans (blk_new _ _ _ rfl)
    try dsimp only at k2
    have k1':=(congrArg (fun v:World=>v.heap[Vd.heap.size]?) e2).trans ((blk_old _ _ _ (by omega)).trans k1)
    try dsimp only at k1'
    clear k1;have k1:=k1';clear k1'
    have b2:Below w.heap.size w D2:=by rw [e2];exact b1.alloc b1.size _
    have s2:D2.heap.size=D1.heap.size+1:=by rw [e2,siz_alloc]
    clear e2
    refine hK.out _ _ ⟨by omega,trivial⟩ (fun hHeld=> ?_)
    clear hK K
    try simp only [PT]
    refine wpAnyH_ready (rs:=[5]) (by kernel_rfl) (by simp) ?_
    refine ready_at rfl (fun K hK=> ?_) AllReadyH.nil
    go_simp
    refine gen_app (K:=K) (fun D3 e3=> ?_)
    have k3:=(congrArg (fun v:World=>v.heap[D2.heap.size]?) e3).trans (blk_new _ _ _ rfl)
    try dsimp only at k3
    have k1':=(congrArg (fun v:World=>v.heap[Vd.heap.size]?) e3).trans ((blk_old _ _ _ (by omega)).trans k1)
    try dsimp only at k1'
    clear k1;have k1:=k1';clear k1'
    have k2':=(congrArg (fun v:World=>v.heap[D1.heap.size]?) e3).trans ((blk_old _ _ _ (by omega)).trans k2)
    try dsimp only at k2'
    clear k2;have k2:=k2';clear k2'
    have b3:Below w.heap.size w D3:=by rw [e3];exact b2.alloc b2.size _
    have s3:D3.heap.size=D2.heap.size+1:=by rw [e3,siz_alloc]
    clear e3
    refine hK.out _ _ ⟨by omega,trivial⟩ (fun hHeld=> ?_)
    clear hK K
    try simp only [PT]
    clear m2 m5 m8
    refine ta 9 hHeld ?_
    refine wpAnyH_ready (rs:=[10]) (by kernel_rfl) (by simp) ?_
    refine ready_at rfl (fun K hK=> ?_) AllReadyH.nil
    go_simp
    refine gen_app (K:=K) (fun D4 e4=> ?_)
    have q4:=(congrArg (fun v:World=>v.heap[D3.heap.size]?) e4).trans (blk_new _ _ _ rfl)
    try dsimp only at q4
    have q1:=(congrArg (fun v:World=>v.heap[Vd.heap.size]?) e4).trans ((blk_old _ _ _ (by omega)).trans k1)
    try dsimp only at q1
    have q2:=(congrArg (fun v:World=>v.heap[D1.heap.size]?) e4).trans ((blk_old _ _ _ (by omega)).trans k2)
    try dsimp only at q2
    have q3:=(congrArg (fun v:World=>v.heap[D2.heap.size]?) e4).trans ((blk_old _ _ _ (by omega)).trans k3)
    try dsimp only at q3
    have b4:Below w.heap.size w D4:=by rw [e4];exact b3.alloc b3.size _
    have s4:D3.heap.size≤D4.heap.size:=by rw [e4,siz_alloc];omega
    clear e4 k1 k2 k3
    refine hK.out _ _ ⟨by omega,trivial⟩ (fun hHeld=> ?_)
    clear hK K
    try simp only [PT]
    refine rd 11 rfl fun K hK=> ?_
    go_simp
    refine ho hK hHeld fun hHeld=> ?_
    clear hK K
    refine wd ?_
    go_wp2_with fail
    go_ret
    simp only [s1] at q2
    simp only [s2,s1] at q3
    simp only [s3,s2,s1] at q4
    obtain ⟨O,h3,h4⟩:=ap_new (w:=w) H2.out q4 q1 q3 q2 (by omega) (by omega) (by omega) (by omega)
    exact ⟨_,O,rfl,h3,h4,b4⟩
  refine ready_at rfl (fun K hK=> ?_) ?_
  · go_simp
    refine gen_app (K:=K) (fun D1 e1=> ?_)
    have k1:=(congrArg (fun v:World=>v.heap[Vd.heap.size]?) e1).trans (blk_new _ _ _ rfl)
    try dsimp only at k1
    have b1:Below w.heap.size w D1:=by rw [e1];exact hB1.alloc hB1.size _
    have s1:D1.heap.size=Vd.heap.size+1:=by rw [e1,siz_alloc]
    clear e1
    refine hK.out _ _ ⟨by omega,trivial⟩ (fun hHeld=> ?_)
    clear hK K
    try simp only [PT]
    refine wpAnyH_ready (rs:=[2,8]) (by kernel_rfl) (by simp) ?_
    refine ready_at rfl (fun K hK=> ?_) ?_
    · go_simp
      refine gen_app (K:=K) (fun D2 e2=> ?_)
      have k2:=(congrArg (fun v:World=>v.heap[D1.heap.size]?) e2).trans (blk_new _ _ _ rfl)
      try dsimp only at k2
      have k1':=(congrArg (fun v:World=>v.heap[Vd.heap.size]?) e2).trans ((blk_old _ _ _ (by omega)).trans k1)
      try dsimp only at k1'
      clear k1;have k1:=k1';clear k1'
      have b2:Below w.heap.size w D2:=by rw [e2];exact b1.alloc b1.size _
      have s2:D2.heap.size=D1.heap.size+1:=by rw [e2,siz_alloc]
      clear e2
      refine hK.out _ _ ⟨by omega,trivial⟩ (fun hHeld=> ?_)
      clear hK K
      try simp only [PT]
      refine wpAnyH_ready (rs:=[8]) (by kernel_rfl) (by simp) ?_
      refine ready_at rfl (fun K hK=> ?_) AllReadyH.nil
      go_simp
      refine gen_app (K:=K) (fun D3 e3=> ?_)
      have k3:=(congrArg (fun v:World=>v.heap[D2.heap.size]?) e3).trans (blk_new _ _ _ rfl)
      try dsimp only at k3
      have k1':=(congrArg (fun v:World=>v.heap[Vd.heap.size]?) e3).trans ((blk_old _ _ _ (by omega)).trans k1)
      try dsimp only at k1'
      clear k1;have k1:=k1';clear k1'
      have k2':=(congrArg (fun v:World=>v.heap[D1.heap.size]?) e3).trans ((blk_old _ _ _ (by omega)).trans k2)
      try dsimp only at k2'
      clear k2;have k2:=k2';clear k2'
      have b3:Below w.heap.size w D3:=by rw [e3];exact b2.alloc b2.size _
      have s3:D3.heap.size=D2.heap.size+1:=by rw [e3,siz_alloc]
      clear e3
      refine hK.out _ _ ⟨by omega,trivial⟩ (fun hHeld=> ?_)
      clear hK K
      try simp only [PT]
      clear m2 m5 m8
      refine ta 9 hHeld ?_
      refine wpAnyH_ready (rs:=[10]) (by kernel_rfl) (by simp) ?_
      refine ready_at rfl (fun K hK=> ?_) AllReadyH.nil
      go_simp
      refine gen_app (K:=K) (fun D4 e4=> ?_)
      have q4:=(congrArg (fun v:World=>v.heap[D3.heap.size]?) e4).trans (blk_new _ _ _ rfl)
      try dsimp only at q4
      have q1:=(congrArg (fun v:World=>v.heap[Vd.heap.size]?) e4).trans ((blk_old _ _ _ (by omega)).trans k1)
      try dsimp only at q1
      have q2:=(congrArg (fun v:World=>v.heap[D1.heap.size]?) e4).trans ((blk_old _ _ _ (by omega)).trans k2)
      try dsimp only at q2
      have q3:=(congrArg (fun v:World=>v.heap[D2.heap.size]?) e4).trans ((blk_old _ _ _ (by omega)).trans k3)
      try dsimp only at q3
      have b4:Below w.heap.size w D4:=by rw [e4];exact b3.alloc b3.size _
      have s4:D3.heap.size≤D4.heap.size:=by rw [e4,siz_alloc];omega
      clear e4 k1 k2 k3
      refine hK.out _ _ ⟨by omega,trivial⟩ (fun hHeld=> ?_)
      clear hK K
      try simp only [PT]
      refine rd 11 rfl fun K hK=> ?_
      go_simp
      refine ho hK hHeld fun hHeld=> ?_
      clear hK K
      refine wd ?_
      go_wp2_with fail
      go_ret
      simp only [s1] at q2
      simp only [s2,s1] at q3
      simp only [s3,s2,s1] at q4
      obtain ⟨O,h3,h4⟩:=ap_new (w:=w) H2.out q4 q2 q1 q3 (by omega) (by omega) (by omega) (by omega)
      exact ⟨_,O,rfl,h3,h4,b4⟩
    refine ready_at rfl (fun K hK=> ?_) AllReadyH.nil
    go_simp
    refine gen_app (K:=K) (fun D2 e2=> ?_)
    have k2:=(congrArg (fun v:World=>v.heap[D1.heap.size]?) e2).trans (blk_new _ _ _ rfl)
    try dsimp only at k2
    have k1':=(congrArg (fun v:World=>v.heap[Vd.heap.size]?) e2).trans ((blk_old _ _ _ (by omega)).trans k1)
    try dsimp only at k1'
    clear k1;have k1:=k1';clear k1'
    have b2:Below w.heap.size w D2:=by rw [e2];exact b1.alloc b1.size _
    have s2:D2.heap.size=D1.heap.size+1:=by rw [e2,siz_alloc]
    clear e2
    refine hK.out _ _ ⟨by omega,trivial⟩ (fun hHeld=> ?_)
    clear hK K
    try simp only [PT]
    refine wpAnyH_ready (rs:=[2]) (by kernel_rfl) (by simp) ?_
    refine ready_at rfl (fun K hK=> ?_) AllReadyH.nil
    go_simp
    refine gen_app (K:=K) (fun D3 e3=> ?_)
    have k3:=(congrArg (fun v:World=>v.heap[D2.heap.size]?) e3).trans (blk_new _ _ _ rfl)
    try dsimp only at k3
    have k1':=(congrArg (fun v:World=>v.heap[Vd.heap.size]?) e3).trans ((blk_old _ _ _ (by omega)).trans k1)
    try dsimp only at k1'
    clear k1;have k1:=k1';clear k1'
    have k2':=(congrArg (fun v:World=>v.heap[D1.heap.size]?) e3).trans ((blk_old _ _ _ (by omega)).trans k2)
    try dsimp only at k2'
    clear k2;have k2:=k2';clear k2'
    have b3:Below w.heap.size w D3:=by rw [e3];exact b2.alloc b2.size _
    have s3:D3.heap.size=D2.heap.size+1:=by rw [e3,siz_alloc]
    clear e3
    refine hK.out _ _ ⟨by omega,trivial⟩ (fun hHeld=> ?_)
    clear hK K
    try simp only [PT]
    clear m2 m5 m8
    refine ta 9 hHeld ?_
    refine wpAnyH_ready (rs:=[10]) (by kernel_rfl) (by simp) ?_
    refine ready_at rfl (fun K hK=> ?_) AllReadyH.nil
    go_simp
    refine gen_app (K:=K) (fun D4 e4=> ?_)
    have q4:=(congrArg (fun v:World=>v.heap[D3.heap.size]?) e4).trans (blk_new _ _ _ rfl)
    try dsimp only at q4
    have q1:=(congrArg (fun v:World=>v.heap[Vd.heap.size]?) e4).trans ((blk_old _ _ _ (by omega)).trans k1)
    try dsimp only at q1
    have q2:=(congrArg (fun v:World=>v.heap[D1.heap.size]?) e4).trans ((blk_old _ _ _ (by omega)).trans k2)
    try dsimp only at q2
    have q3:=(congrArg (fun v:World=>v.heap[D2.heap.size]?) e4).trans ((blk_old _ _ _ (by omega)).trans k3)
    try dsimp only at q3
    have b4:Below w.heap.size w D4:=by rw [e4];exact b3.alloc b3.size _
    have s4:D3.heap.size≤D4.heap.size:=by rw [e4,siz_alloc];omega
    clear e4 k1 k2 k3
    refine hK.out _ _ ⟨by omega,trivial⟩ (fun hHeld=> ?_)
    clear hK K
    try simp only [PT]
    refine rd 11 rfl fun K hK=> ?_
    go_simp
    refine ho hK hHeld fun hHeld=> ?_
    clear hK K
    refine wd ?_
    go_wp2_with fail
    go_ret
    simp only [s1] at q2
    simp only [s2,s1] at q3
    simp only [s3,s2,s1] at q4
    obtain ⟨O,h3,h4⟩:=ap_new (w:=w) H2.out q4 q3 q1 q2 (by omega) (by omega) (by omega) (by omega)
    exact ⟨_,O,rfl,h3,h4,b4⟩
  refine ready_at rfl (fun K hK=> ?_) AllReadyH.nil
  go_simp
  refine gen_app (K:=K) (fun D1 e1=> ?_)
  have k1:=(congrArg (fun v:World=>v.heap[Vd.heap.size]?) e1).trans (blk_new _ _ _ rfl)
  try dsimp only at k1
  have b1:Below w.heap.size w D1:=by rw [e1];exact hB1.alloc hB1.size _
  have s1:D1.heap.size=Vd.heap.size+1:=by rw [e1,siz_alloc]
  clear e1
  refine hK.out _ _ ⟨by omega,trivial⟩ (fun hHeld=> ?_)
  clear hK K
  try simp only [PT]
  refine wpAnyH_ready (rs:=[2,5]) (by kernel_rfl) (by simp) ?_
  refine ready_at rfl (fun K hK=> ?_) ?_
  · go_simp
    refine gen_app (K:=K) (fun D2 e2=> ?_)
    have k2:=(congrArg (fun v:World=>v.heap[D1.heap.size]?) e2).trans (blk_new _ _ _ rfl)
    try dsimp only at k2
    have k1':=(congrArg (fun v:World=>v.heap[Vd.heap.size]?) e2).trans ((blk_old _ _ _ (by omega)).trans k1)
    try dsimp only at k1'
    clear k1;have k1:=k1';clear k1'
    have b2:Below w.heap.size w D2:=by rw [e2];exact b1.alloc b1.size _
    have s2:D2.heap.size=D1.heap.size+1:=by rw [e2,siz_alloc]
    clear e2
    refine hK.out _ _ ⟨by omega,trivial⟩ (fun hHeld=> ?_)
    clear hK K
    try simp only [PT]
    refine wpAnyH_ready (rs:=[5]) (by kernel_rfl) (by simp) ?_
    refine ready_at rfl (fun K hK=> ?_) AllReadyH.nil
    go_simp
    refine gen_app (K:=K) (fun D3 e3=> ?_)
    have k3:=(congrArg (fun v:World=>v.heap[D2.heap.size]?) e3).trans (blk_new _ _ _ rfl)
    try dsimp only at k3
    have k1':=(congrArg (fun v:World=>v.heap[Vd.heap.size]?) e3).trans ((blk_old _ _ _ (by omega)).trans k1)
    try dsimp only at k1'
    clear k1;have k1:=k1';clear k1'
    have k2':=(congrArg (fun v:World=>v.heap[D1.heap.size]?) e3).trans ((blk_old _ _ _ (by omega)).trans k2)
    try dsimp only at k2'
    clear k2;have k2:=k2';clear k2'
    have b3:Below w.heap.size w D3:=by rw [e3];exact b2.alloc b2.size _
    have s3:D3.heap.size=D2.heap.size+1:=by rw [e3,siz_alloc]
    clear e3
    refine hK.out _ _ ⟨by omega,trivial⟩ (fun hHeld=> ?_)
    clear hK K
    try simp only [PT]
    clear m2 m5 m8
    refine ta 9 hHeld ?_
    refine wpAnyH_ready (rs:=[10]) (by kernel_rfl) (by simp) ?_
    refine ready_at rfl (fun K hK=> ?_) AllReadyH.nil
    go_simp
    refine gen_app (K:=K) (fun D4 e4=> ?_)
    have q4:=(congrArg (fun v:World=>v.heap[D3.heap.size]?) e4).trans (blk_new _ _ _ rfl)
    try dsimp only at q4
    have q1:=(congrArg (fun v:World=>v.heap[Vd.heap.size]?) e4).trans ((blk_old _ _ _ (by omega)).trans k1)
    try dsimp only at q1
    have q2:=(congrArg (fun v:World=>v.heap[D1.heap.size]?) e4).trans ((blk_old _ _ _ (by omega)).trans k2)
    try dsimp only at q2
    have q3:=(congrArg (fun v:World=>v.heap[D2.heap.size]?) e4).trans ((blk_old _ _ _ (by omega)).trans k3)
    try dsimp only at q3
    have b4:Below w.heap.size w D4:=by rw [e4];exact b3.alloc b3.size _
    have s4:D3.heap.size≤D4.heap.size:=by rw [e4,siz_alloc];omega
    clear e4 k1 k2 k3
    refine hK.out _ _ ⟨by omega,trivial⟩ (fun hHeld=> ?_)
    clear hK K
    try simp only [PT]
    refine rd 11 rfl fun K hK=> ?_
    go_simp
    refine ho hK hHeld fun hHeld=> ?_
    clear hK K
    refine wd ?_
    go_wp2_with fail
    go_ret
    simp only [s1] at q2
    simp only [s2,s1] at q3
    simp only [s3,s2,s1] at q4
    obtain ⟨O,h3,h4⟩:=ap_new (w:=w) H2.out q4 q2 q3 q1 (by omega) (by omega) (by omega) (by omega)
    exact ⟨_,O,rfl,h3,h4,b4⟩
  refine ready_at rfl (fun K hK=> ?_) AllReadyH.nil
  go_simp
  refine gen_app (K:=K) (fun D2 e2=> ?_)
  have k2:=(congrArg (fun v:World=>v.heap[D1.heap.size]?) e2).trans (blk_new _ _ _ rfl)
  try dsimp only at k2
  have k1':=(congrArg (fun v:World=>v.heap[Vd.heap.size]?) e2).trans ((blk_old _ _ _ (by omega)).trans k1)
  try dsimp only at k1'
  clear k1;have k1:=k1';clear k1'
  have b2:Below w.heap.size w D2:=by rw [e2];exact b1.alloc b1.size _
  have s2:D2.heap.size=D1.heap.size+1:=by rw [e2,siz_alloc]
  clear e2
  refine hK.out _ _ ⟨by omega,trivial⟩ (fun hHeld=> ?_)
  clear hK K
  try simp only [PT]
  refine wpAnyH_ready (rs:=[2]) (by kernel_rfl) (by simp) ?_
  refine ready_at rfl (fun K hK=> ?_) AllReadyH.nil
  go_simp
  refine gen_app (K:=K) (fun D3 e3=> ?_)
  have k3:=(congrArg (fun v:World=>v.heap[D2.heap.size]?) e3).trans (blk_new _ _ _ rfl)
  try dsimp only at k3
  have k1':=(congrArg (fun v:World=>v.heap[Vd.heap.size]?) e3).trans ((blk_old _ _ _ (by omega)).trans k1)
  try dsimp only at k1'
  clear k1;have k1:=k1';clear k1'
  have k2':=(congrArg (fun v:World=>v.heap[D1.heap.size]?) e3).trans ((blk_old _ _ _ (by omega)).trans k2)
  try dsimp only at k2'
  clear k2;have k2:=k2';clear k2'
  have b3:Below w.heap.size w D3:=by rw [e3];exact b2.alloc b2.size _
  have s3:D3.heap.size=D2.heap.size+1:=by rw [e3,siz_alloc]
  clear e3
  refine hK.out _ _ ⟨by omega,trivial⟩ (fun hHeld=> ?_)
  clear hK K
  try simp only [PT]
  clear m2 m5 m8
  refine ta 9 hHeld ?_
  refine wpAnyH_ready (rs:=[10]) (by kernel_rfl) (by simp) ?_
  refine ready_at rfl (fun K hK=> ?_) AllReadyH.nil
  go_simp
  refine gen_app (K:=K) (fun D4 e4=> ?_)
  have q4:=(congrArg (fun v:World=>v.heap[D3.heap.size]?) e4).trans (blk_new _ _ _ rfl)
  try dsimp only at q4
  have q1:=(congrArg (fun v:World=>v.heap[Vd.heap.size]?) e4).trans ((blk_old _ _ _ (by omega)).trans k1)
  try dsimp only at q1
  have q2:=(congrArg (fun v:World=>v.heap[D1.heap.size]?) e4).trans ((blk_old _ _ _ (by omega)).trans k2)
  try dsimp only at q2
  have q3:=(congrArg (fun v:World=>v.heap[D2.heap.size]?) e4).trans ((blk_old _ _ _ (by omega)).trans k3)
  try dsimp only at q3
  have b4:Below w.heap.size w D4:=by rw [e4];exact b3.alloc b3.size _
  have s4:D3.heap.size≤D4.heap.size:=by rw [e4,siz_alloc];omega
  clear e4 k1 k2 k3
  refine hK.out _ _ ⟨by omega,trivial⟩ (fun hHeld=> ?_)
  clear hK K
  try simp only [PT]
  refine rd 11 rfl fun K hK=> ?_
  go_simp
  refine ho hK hHeld fun hHeld=> ?_
  clear hK K
  refine wd ?_
  go_wp2_with fail
  go_ret
  simp only [s1] at q2
  simp only [s2,s1] at q3
  simp only [s3,s2,s1] at q4
  obtain ⟨O,h3,h4⟩:=ap_new (w:=w) H2.out q4 q3 q2 q1 (by omega) (by omega) (by omega) (by omega)
  exact ⟨_,O,rfl,h3,h4,b4⟩
end
section
open Go.RowKit
def lessL (d:Bool):List UInt8→List UInt8→Bool
  | [],[]=>d
  | [],_::_=>true
  | _::_,[]=>false
  | x::s,y::t=>if x=y then lessL d s t else decide (x.toNat<y.toNat)
theorem drop_at {α:Type} {l:List α} {i:Nat} {x:α} (h:l[i]? =some x):l.drop i=x::l.drop (i+1):=by
  obtain ⟨h1,rfl⟩:=List.getElem?_eq_some_iff.1 h
  exact List.drop_eq_getElem_cons h1
theorem at_some {α:Type} {l:List α} {i:Nat} (h:i<l.length): ∃x,l[i]? =some x:=⟨l[i],List.getElem?_eq_getElem h⟩
def refRight (ts:List (List UInt8)):Bool:=ts.all (fun t=>decide (t.length≤40))&&decide (ts.length≤10)
def rowsOf (ts:List (List UInt8)) (d:Nat):List (Nat×Nat):=(List.range ((ts.getD d []).length+1)).map fun a=>(d,a)
def upto (ts:List (List UInt8)) (d a:Nat):List (Nat×Nat):=(List.range d).flatMap (rowsOf ts)++(List.range a).map fun a=>(d,a)
def refLess (ts:List (List UInt8)) (a b:Nat×Nat):Bool:=lessL (decide (a.1<b.1)) ((ts.getD a.1 []).drop a.2) ((ts.getD b.1 []).drop b.2)
def refAt (ts:List (List UInt8)) (out:List (Nat×Nat)) (r:Nat×Nat):Nat:=(out.takeWhile (fun x=>refLess ts x r)).length
def refIns (ts:List (List UInt8)) (out:List (Nat×Nat)) (r:Nat×Nat):List (Nat×Nat):=out.take (refAt ts out r)++r::out.drop (refAt ts out r)
def refFold (ts:List (List UInt8)) (l:List (Nat×Nat)):List (Nat×Nat):=l.foldl (refIns ts) []
def refSorted (ts:List (List UInt8)):List (Nat×Nat):=if refRight ts then refFold ts (upto ts ts.length 0) else []
def rowInts (l:List (Nat×Nat)):List (Int×Int):=l.map fun r=>((r.1:Int),(r.2:Int))
theorem upto_snoc (ts:List (List UInt8)) (d a:Nat):upto ts d (a+1)=upto ts d a++[(d,a)]:=by
  unfold upto
  rw [List.range_succ,List.map_append,List.append_assoc];rfl
theorem upto_next (ts:List (List UInt8)) (d:Nat):upto ts d ((ts.getD d []).length+1)=upto ts (d+1) 0:=by
  unfold upto
  rw [show List.range (d+1)=List.range d++[d] from List.range_succ,List.flatMap_append]
  simp [rowsOf]
theorem refFold_snoc (ts:List (List UInt8)) (l:List (Nat×Nat)) (r:Nat×Nat):refFold ts (l++[r])=refIns ts (refFold ts l) r:=by
  unfold refFold;rw [List.foldl_append];rfl
theorem refAt_le (ts:List (List UInt8)) (out:List (Nat×Nat)) (r:Nat×Nat):refAt ts out r≤out.length:=by
  unfold refAt;exact (List.takeWhile_prefix _).length_le
theorem refIns_mem (ts:List (List UInt8)) (out:List (Nat×Nat)) (r x:Nat×Nat):x∈refIns ts out r↔x=r∨x∈out:=by
  unfold refIns
  rw [List.mem_append,List.mem_cons]
  have:x∈out↔x∈out.take (refAt ts out r)∨x∈out.drop (refAt ts out r):=by rw [←List.mem_append,List.take_append_drop]
  rw [this]
  constructor
  · rintro (h|h|h)
    · exact .inr (.inl h)
    · exact .inl h
    · exact .inr (.inr h)
  · rintro (h|h|h)
    · exact .inr (.inl h)
    · exact .inl h
    · exact .inr (.inr h)
theorem refIns_length (ts:List (List UInt8)) (out:List (Nat×Nat)) (r:Nat×Nat):(refIns ts out r).length=out.length+1:=by
  unfold refIns
  have:=refAt_le ts out r
  simp;omega
theorem fold_mem (ts:List (List UInt8)): ∀(l out:List (Nat×Nat)) (x:Nat×Nat),x∈l.foldl (refIns ts) out↔x∈l∨x∈out
  | [],out,x=>by simp
  | r::l,out,x=>by
    rw [List.foldl_cons,fold_mem ts l,refIns_mem,List.mem_cons]
    constructor
    · rintro (h|h|h)
      · exact .inl (.inr h)
      · exact .inl (.inl h)
      · exact .inr h
    · rintro ((h|h)|h)
      · exact .inr (.inl h)
      · exact .inl h
      · exact .inr (.inr h)
theorem refFold_mem (ts:List (List UInt8)) (l:List (Nat×Nat)) (x:Nat×Nat):x∈refFold ts l↔x∈l:=by
  unfold refFold;rw [fold_mem];simp
theorem fold_length (ts:List (List UInt8)): ∀(l out:List (Nat×Nat)),(l.foldl (refIns ts) out).length=l.length+out.length
  | [],out=>by simp
  | r::l,out=>by rw [List.foldl_cons,fold_length ts l,refIns_length,List.length_cons];omega
theorem refFold_length (ts:List (List UInt8)) (l:List (Nat×Nat)):(refFold ts l).length=l.length:=by
  unfold refFold;rw [fold_length];simp
theorem getD_at {ts:List (List UInt8)} {d:Nat} {t:List UInt8} (h:ts[d]? =some t):ts.getD d []=t:=by simp [List.getD,h]
theorem upto_mem {ts:List (List UInt8)} {d a:Nat} {x:Nat×Nat} (h:x∈upto ts d a):(x.1<d∧x.2≤(ts.getD x.1 []).length)∨(x.1=d∧x.2<a):=by
  unfold upto rowsOf at h
  rw [List.mem_append] at h
  rcases h with h|h
  · obtain ⟨e,he,h⟩:=List.mem_flatMap.1 h
    obtain ⟨b,hb,rfl⟩:=List.mem_map.1 h
    rw [List.mem_range] at he hb
    exact .inl ⟨he,by show b≤(ts.getD e []).length;omega⟩
  · obtain ⟨b,hb,rfl⟩:=List.mem_map.1 h
    rw [List.mem_range] at hb
    exact .inr ⟨rfl,hb⟩
theorem right_len {ts:List (List UInt8)} (h:refRight ts=true):ts.length≤10∧ ∀d,(ts.getD d []).length≤40:=by
  unfold refRight at h
  simp only [Bool.and_eq_true,decide_eq_true_eq,List.all_eq_true] at h
  refine ⟨h.2,fun d=> ?_⟩
  by_cases hd:d<ts.length
  · rw [getD_at (List.getElem?_eq_getElem hd)];exact h.1 _ (List.getElem_mem hd)
  · simp [List.getD,List.getElem?_eq_none (Nat.le_of_not_lt hd)]
theorem flat_length (ts:List (List UInt8)) (h: ∀d,(ts.getD d []).length≤40): ∀d,((List.range d).flatMap (rowsOf ts)).length≤d*41
  | 0=>by simp
  | d+1=>by
    have:=flat_length ts h d
    have:=h d
    rw [List.range_succ,List.flatMap_append,List.length_append]
    have e:((List.flatMap (rowsOf ts) [d])).length=(ts.getD d []).length+1:=by simp [rowsOf]
    omega
theorem upto_length {ts:List (List UInt8)} (h: ∀d,(ts.getD d []).length≤40) (d a:Nat):(upto ts d a).length≤d*41+a:=by
  unfold upto
  have:=flat_length ts h d
  rw [List.length_append,List.length_map,List.length_range];omega
theorem refAt_of {ts:List (List UInt8)}: ∀{out:List (Nat×Nat)} {r:Nat×Nat} {j:Nat},j≤out.length→(∀i x,i<j→out[i]? =some x→refLess ts x r=true)→(∀x,out[j]? =some x→refLess ts x r=false)→refAt ts out r=j
  | [],r,j,h,_,_=>by unfold refAt;simp at h⊢;omega
  | y::out,r,0,h,h1,h2=>by
    unfold refAt
    rw [List.takeWhile_cons,if_neg (by rw [h2 y rfl];simp)];rfl
  | y::out,r,j+1,h,h1,h2=>by
    unfold refAt
    rw [List.takeWhile_cons,if_pos (h1 0 y (by omega) rfl),List.length_cons]
    have:=refAt_of (ts:=ts) (out:=out) (r:=r) (j:=j) (by simpa using h) (fun i x hi hx=>h1 (i+1) x (by omega) (by simpa using hx)) (fun x hx=>h2 x (by simpa using hx))
    unfold refAt at this
    rw [this]
theorem fold_small {ts:List (List UInt8)} (h:refRight ts=true) (d a:Nat) (hd:d≤10) (ha:a≤41):(refFold ts (upto ts d a)).length≤500:=by
  rw [refFold_length]
  have:=upto_length (right_len h).2 d a
  omega
theorem fold_valid {ts:List (List UInt8)} (d a:Nat) (t:List UInt8) (ht:ts[d]? =some t) (ha:a≤t.length) (x:Nat×Nat) (hx:x∈refFold ts (upto ts d a)): ∃t',ts[x.1]? =some t'∧x.2≤t'.length:=by
  rw [refFold_mem] at hx
  have hd:=(List.getElem?_eq_some_iff.1 ht).1
  rcases upto_mem hx with ⟨h1,h2⟩|⟨h1,h2⟩
  · obtain ⟨t',ht'⟩:=at_some (show x.1<ts.length by omega)
    rw [getD_at ht'] at h2
    exact ⟨t',ht',h2⟩
  · exact ⟨t,by rw [h1];exact ht,by omega⟩
def symOf (ts:List (List UInt8)) (r:Nat×Nat):Int:=if r.2=0 then 0 else (((ts.getD r.1 []).getD (r.2 - 1) 0).toNat:Int)+1
theorem sorted_valid {ts:List (List UInt8)} {x:Nat×Nat} (h:x∈refSorted ts): ∃t,ts[x.1]? =some t∧x.2≤t.length:=by
  unfold refSorted at h
  split at h
  · rw [refFold_mem] at h
    rcases upto_mem h with ⟨h1,h2⟩|⟨h1,h2⟩
    · obtain ⟨t,ht⟩:=at_some h1
      rw [getD_at ht] at h2
      exact ⟨t,ht,h2⟩
    · omega
  · cases h
theorem sorted_small (ts:List (List UInt8)):(refSorted ts).length≤500:=by
  unfold refSorted
  split
  · rename_i h
    exact fold_small h _ _ (right_len h).1 (by omega)
  · simp
def rowsM (ds:List (Int×List UInt8)):List (Int×Int×Int):=(refSorted (ds.map (·.2))).map fun r=>((ds.getD r.1 (0,[])).1,(r.2:Int),symOf (ds.map (·.2)) r)
def docsM (ds:List (Int×List UInt8)):List (Int×Int):=ds.map fun d=>(d.1,(d.2.length:Int))
end
section
open Go.RowKit
attribute [local go_sem ↓] Go.wp_at_zero Go.wp_at_succ
attribute [local go_sem] str_len
def Rk (w:World) (size:Nat) (v:Value) (n:Nat) (xs:List Value):Prop:=
  xs.length=n*size∧ ∃A cap,v= .slice A n cap∧(0<n→ ∃g cs T,A=some ⟨g,0,none⟩∧w.heap[g]? =some (.cells cs T (0,0))∧ ∀j,j<n*size→cs[j]? =xs[j]?)
theorem Rk.below {w w':World} {size n:Nat} {v:Value} {xs:List Value} (h:Rk w size v n xs) (hb:Below w.heap.size w w'):Rk w' size v n xs:=by
  obtain ⟨h1,A,cap,rfl,h2⟩:=h
  refine ⟨h1,A,cap,rfl,fun hn=> ?_⟩
  obtain ⟨g,cs,T,rfl,hg,hc⟩:=h2 hn
  exact ⟨g,cs,T,rfl,keep_blk hb hg,hc⟩
theorem Rk.of_own {w:World} {base:Nat} {e:TypeId} {size n:Nat} {v:Value} {xs:List Value} (h:w.ownsRow base e size v n xs):Rk w size v n xs:=by
  rcases h.2 with ⟨rfl,h0⟩|⟨g,cap,cur,rfl,hg,hc,hcap,hm,hs,hx⟩
  · subst h0;exact ⟨h.1,none,0,rfl,fun h=>absurd h (by omega)⟩
  · refine ⟨h.1,some ⟨g,0,none⟩,cap,rfl,fun _=>⟨g,cur,_,rfl,hc,fun j hj=> ?_⟩⟩
    rw [←h.cellAt j hj,cells_of hc]
theorem str_from (l : List UInt8) (a : Nat) (h2 : a ≤ l.length) (w : World) :
    (Instr.slice 9 (strOf l) (some (.int .i64 (a:Int))) none none).run Tryz.prog w= .ok (strOf (l.drop a)) w:=by
  unfold strOf
  have h3:(⟨l.toArray⟩:ByteArray).size=l.length:=by simp [ByteArray.size]
  have:=run_slice_string_from_if w 9 ⟨l.toArray⟩ .i64 (a:Int) (P:=Tryz.prog) (by kernel_rfl)
  rw [this,if_pos ⟨by omega,by rw [h3];omega⟩,h3,Int.toNat_natCast,ByteArray.extract_mk]
  rw [List.take_of_length_le (by simp)]
theorem rrow_calls (v : Value) (ts : List (List UInt8)) (d a : Nat) (t : List UInt8) (ht : ts[d]? = some t) (ha : a ≤ t.length) (w : World) (h : Rk w 1 v ts.length (ts.map strOf)) :
    Calls Tryz.prog 254 #[v, .agg #[.int .i64 (d:Int), .int .i64 (a:Int)]] w fun e w'=>e= .returned (.bool true)∧Below w.heap.size w w':=by
  obtain ⟨hd, -⟩:=List.getElem?_eq_some_iff.1 ht
  obtain ⟨h1,A,cap,rfl,h2⟩:=h
  obtain ⟨g,cs,T,rfl,kg,hcs⟩:=h2 (by omega)
  have hci:cs[d]? =some (strOf t):=by rw [hcs d (by omega),List.getElem?_map,ht];rfl
  have n1:(d:Int)<(ts.length:Int):=by omega
  have n2:(a:Int)≤(t.length:Int):=by omega
  clear h1 h2 hcs ht
  go_enter Tryz.func254,Tryz.ntmps254
  have c_kg:=f3 kg;have l_kgw:=lt_of kg
  go_wp2_with fail
  refine wg fun V hV_V=> ?_
  have hB:=Below.refl w.heap.size w
  refine neb1 hV_V hB kg ?_;clear hB kg c_kg;intro z_V hB kg c_kg
  obtain ⟨kr,c_kr,l_krV⟩:=nM hV_V (w.heap.size)
  clear hV_V
  refine dr (fun v=>Sm v V (g)∧Sm v V (w.heap.size)∧(V.heap.size≤v.heap.size)∧True) ⟨fun _=>rfl,fun _=>rfl,Nat.le_refl _,trivial⟩ fun Vd hV_Vd hHeld=> ?_
  have v_kg:=c_kg.1;have v_kr:=c_kr.1
  refine neb2 hV_Vd hB kg kr ?_;clear hB kg kr c_kg c_kr;intro z_Vd hB kg c_kg kr c_kr
  clear hV_Vd
  refine ta 0 hHeld ?_
  refine ta 1 hHeld ?_
  refine ta 2 hHeld ?_
  refine ta 3 hHeld ?_
  refine ta 4 hHeld ?_
  refine ta 5 hHeld ?_
  refine ta 6 hHeld ?_
  refine ta 7 hHeld ?_
  refine ta 8 hHeld ?_
  refine ta 9 hHeld ?_
  refine ta 10 hHeld ?_
  refine ta 11 hHeld ?_
  refine ta 12 hHeld ?_
  refine ta 13 hHeld ?_
  refine ta 14 hHeld ?_
  refine ta 15 hHeld ?_
  refine ta 16 hHeld ?_
  refine ta 17 hHeld ?_
  refine ta 18 hHeld ?_
  refine ta 19 hHeld ?_
  refine ta 20 hHeld ?_
  refine ta 21 hHeld ?_
  refine ta 22 hHeld ?_
  refine ta 23 hHeld ?_
  refine ta 24 hHeld ?_
  refine ta 25 hHeld ?_
  refine rd 26 rfl fun K hK=> ?_
  go_simp
  refine ho hK hHeld fun hHeld=> ?_
  clear hK K
  refine wd ?_
  go_wp2_with fail
  go_ret
  exact ⟨rfl,hB⟩
theorem less_calls (v : Value) (ts : List (List UInt8)) (d1 a1 d2 a2 : Nat) (t1 t2 : List UInt8) (ht1 : ts[d1]? = some t1) (ha1 : a1 ≤ t1.length) (ht2 : ts[d2]? = some t2) (ha2 : a2 ≤ t2.length) (hl1 : t1.length ≤ 50000) (r : Bool) (hr : lessL (decide (d1 < d2)) (t1.drop a1) (t2.drop a2) = r) (w : World) (h : Rk w 1 v ts.length (ts.map strOf)) :
    Calls Tryz.prog 186 #[v, .agg #[.int .i64 (d1:Int), .int .i64 (a1:Int)], .agg #[.int .i64 (d2:Int), .int .i64 (a2:Int)]] w fun e w'=>e= .returned (.bool r)∧Below w.heap.size w w':=by
  obtain ⟨hd1, -⟩:=List.getElem?_eq_some_iff.1 ht1
  obtain ⟨hd2, -⟩:=List.getElem?_eq_some_iff.1 ht2
  obtain ⟨h1,A,cap,rfl,h2⟩:=h
  obtain ⟨g,cs,T,rfl,kg,hcs⟩:=h2 (by omega)
  have hc1:cs[d1]? =some (strOf t1):=by rw [hcs d1 (by omega),List.getElem?_map,ht1];rfl
  have hc2:cs[d2]? =some (strOf t2):=by rw [hcs d2 (by omega),List.getElem?_map,ht2];rfl
  have n1:(d1:Int)<(ts.length:Int):=by omega
  have n2:(d2:Int)<(ts.length:Int):=by omega
  have f1:=str_from t1 a1 ha1
  have f2:=str_from t2 a2 ha2
  have HR:=Lib.hid hr;clear hr
  have Hcs:=Lib.hid hcs;have H1:=Lib.hid h1;have HT1:=Lib.hid ht1;have HT2:=Lib.hid ht2;have HA1:=Lib.hid ha1;have HA2:=Lib.hid ha2
  clear h1 h2 hcs ht1 ht2 hd1 hd2 ha1 ha2
  go_enter Tryz.func186,Tryz.ntmps186
  have c_kg:=f3 kg;have l_kgw:=lt_of kg
  go_wp2_with fail
  refine cg fun V hV_V=> ?_
  have hB:=Below.refl w.heap.size w
  refine neb1 hV_V hB kg ?_;clear hB kg c_kg;intro z_V hB kg c_kg
  obtain ⟨ka,c_ka,l_kaV⟩:=nM hV_V (w.heap.size)
  obtain ⟨kb,c_kb,l_kbV⟩:=nM hV_V (w.heap.size+1)
  clear hV_V
  refine rC (rrow_calls _ ts d1 a1 t1 HT1.out HA1.out _ ⟨H1.out,_,_,rfl,fun _=>⟨g,cs,T,rfl,kg,Hcs.out⟩⟩) fun W1 hb_W1=> ?_
  refine beb3 hb_W1 hB kg ka kb ?_;clear hb_W1 hB kg ka kb c_kg c_ka c_kb;intro z_W1 hB kg c_kg ka c_ka kb c_kb
  go_wp2_with fail
  refine cg fun V1 hV_V1=> ?_
  refine neb3 hV_V1 hB kg ka kb ?_;clear hB kg ka kb c_kg c_ka c_kb;intro z_V1 hB kg c_kg ka c_ka kb c_kb
  clear hV_V1
  refine rC (rrow_calls _ ts d2 a2 t2 HT2.out HA2.out _ ⟨H1.out,_,_,rfl,fun _=>⟨g,cs,T,rfl,kg,Hcs.out⟩⟩) fun W2 hb_W2=> ?_
  refine beb3 hb_W2 hB kg ka kb ?_;clear hb_W2 hB kg ka kb c_kg c_ka c_kb;intro z_W2 hB kg c_kg ka c_ka kb c_kb
  go_wp2_with fail
  refine wg fun V2 hV_V2=> ?_
  refine neb3 hV_V2 hB kg ka kb ?_;clear hB kg ka kb c_kg c_ka c_kb;intro z_V2 hB kg c_kg ka c_ka kb c_kb
  clear hV_V2
  refine dr (fun v=>Sm v V2 (g)∧Sm v V2 (w.heap.size)∧Sm v V2 (w.heap.size+1)∧(V2.heap.size≤v.heap.size)∧True) ⟨fun _=>rfl,fun _=>rfl,fun _=>rfl,Nat.le_refl _,trivial⟩ fun V2d hV_V2d hHeld=> ?_
  have v_kg:=c_kg.1;have v_ka:=c_ka.1;have v_kb:=c_kb.1
  refine neb3 hV_V2d hB kg ka kb ?_;clear hB kg ka kb c_kg c_ka c_kb;intro z_V2d hB kg c_kg ka c_ka kb c_kb
  clear hV_V2d
  refine ta 0 hHeld ?_
  refine ta 1 hHeld ?_
  refine ta 2 hHeld ?_
  refine ta 3 hHeld ?_
  refine ta 4 hHeld ?_
  refine ta 5 hHeld ?_
  refine ta 6 hHeld ?_
  refine ta 7 hHeld ?_
  refine ta 8 hHeld ?_
  refine ta 9 hHeld ?_
  refine ta 10 hHeld ?_
  refine ta 11 hHeld ?_
  refine ta 12 hHeld ?_
  refine ta 13 hHeld ?_
  refine ta 14 hHeld ?_
  refine ta 15 hHeld ?_
  refine rd 16 rfl fun K hK=> ?_
  go_simp
  refine ho hK hHeld fun hHeld=> ?_
  clear hK K
  refine rd 17 rfl fun K hK=> ?_
  go_simp
  refine ho hK hHeld fun hHeld=> ?_
  clear hK K
  refine wd ?_
  clear f1 f2 hc1 hc2 n1 n2 Hcs H1 HT1 HT2 HA1 HA2
  go_wp2_with fail
  refine wg fun V3 hV_V3=> ?_
  refine neb2 hV_V3 hB ka kb ?_;clear hB ka kb c_kg c_ka c_kb kg;intro z_V3 hB ka c_ka kb c_kb
  clear hV_V3
  have hs0:(t1.drop a1).length≤50000:=by rw [List.length_drop];omega
  generalize t1.drop a1=s at HR hs0⊢
  generalize t2.drop a2=t at HR⊢
  go_loopg [9] (s.length+1) (fun k p wr=> ∃i:Nat,p= .int .i64 (i:Int)∧i+k=s.length+1∧i≤s.length∧i≤t.length∧Hid (lessL (decide (d1<d2)) (s.drop i) (t.drop i)=r)∧wr.heap[w.heap.size]? =some (.cells #[.int .i64 (d1:Int), .int .i64 (a1:Int)] 136 (0,0))∧wr.heap[w.heap.size+1]? =some (.cells #[.int .i64 (d2:Int), .int .i64 (a2:Int)] 136 (0,0))∧Below w.heap.size w wr)
  case atStart=>exact ⟨0,rfl,by omega,by omega,by omega,HR,ka,kb,hB⟩
  case round=>
    clear ka kb c_ka c_kb hB HR
    obtain ⟨i,rfl,hk,hi1,hi2,Hl,ka,kb,hB⟩:=hrel
    have c_ka:=f3 ka;have l_kawr:=lt_of ka
    have c_kb:=f3 kb;have l_kbwr:=lt_of kb
    by_cases c1:i=s.length
    · have e1:s.drop i=[]:=by rw [c1];simp
      by_cases c2:i=t.length
      · have e2:t.drop i=[]:=by rw [c2];simp
        have hl:=Hl.out
        rw [e1,e2] at hl
        unfold lessL at hl
        have hL:=Lib.hid hl
        have q1:((i:Int)==(s.length:Int))=true:=by rw [c1];exact beq_self_eq_true _
        have q2:((i:Int)==(t.length:Int))=true:=by rw [c2];exact beq_self_eq_true _
        clear hl Hl e1 e2 hk hi1 hi2 c1 c2
        go_wp2_with fail
        go_ret
        exact ⟨by rw [←hL.out];first|rfl|simp,bel⟩
      · obtain ⟨y,hy⟩:=at_some (show i<t.length by omega)
        have e2:=drop_at hy
        clear hy
        have hl:=Hl.out
        rw [e1,e2] at hl
        unfold lessL at hl
        have hL:=Lib.hid hl
        have q1:((i:Int)==(s.length:Int))=true:=by rw [c1];exact beq_self_eq_true _
        have q2:((i:Int)==(t.length:Int))=false:=by rw [beq_eq_false_iff_ne];omega
        clear hl Hl e1 e2 hk hi1 hi2 c1 c2
        go_wp2_with fail
        go_ret
        exact ⟨by rw [←hL.out];rfl,bel⟩
    · have q1:((i:Int)==(s.length:Int))=false:=by rw [beq_eq_false_iff_ne];omega
      obtain ⟨x,hx⟩:=at_some (show i<s.length by omega)
      have e1:=drop_at hx
      by_cases c2:i=t.length
      · have e2:t.drop i=[]:=by rw [c2];simp
        have hl:=Hl.out
        rw [e1,e2] at hl
        unfold lessL at hl
        have hL:=Lib.hid hl
        have q2:((i:Int)==(t.length:Int))=true:=by rw [c2];exact beq_self_eq_true _
        clear hl Hl e1 e2 hk hi1 hi2 c1 c2 hx
        go_wp2_with fail
        go_ret
        exact ⟨by rw [←hL.out];rfl,bel⟩
      · have q2:((i:Int)==(t.length:Int))=false:=by rw [beq_eq_false_iff_ne];omega
        obtain ⟨y,hy⟩:=at_some (show i<t.length by omega)
        have e2:=drop_at hy
        have g1:=str_index s i x hx
        have g2:=str_index t i y hy
        have hl:=Hl.out
        rw [e1,e2] at hl
        unfold lessL at hl
        have hi1':i<s.length:=by omega
        have hi2':i<t.length:=by omega
        clear Hl e1 e2 hx hy c1 c2
        by_cases c3:x=y
        · rw [if_pos c3] at hl
          subst c3
          have hL:=Lib.hid hl
          have Hk:=Lib.hid hk;have Hi:=Lib.hid (And.intro hi1' hi2')
          have e3:wrap64 ((i:Int)+1)=(i:Int)+1:=IntWalk.wrap64_in _ (by omega)
          clear hl hk hi1 hi2 hi1' hi2'
          go_wp2_with fail
          refine wg fun V4 hV_V4=> ?_
          refine neb2 hV_V4 hB ka kb ?_;clear hB ka kb c_ka c_kb;intro z_V4 hB ka c_ka kb c_kb
          clear hV_V4
          refine dr (fun v=>Sm v V4 (w.heap.size)∧Sm v V4 (w.heap.size+1)∧(V4.heap.size≤v.heap.size)∧True) ⟨fun _=>rfl,fun _=>rfl,Nat.le_refl _,trivial⟩ fun V4d hV_V4d hHeld=> ?_
          have v_ka:=c_ka.1;have v_kb:=c_kb.1
          refine neb2 hV_V4d hB ka kb ?_;clear hB ka kb c_ka c_kb;intro z_V4d hB ka c_ka kb c_kb
          clear hV_V4d
          refine ta 0 hHeld ?_
          refine ta 1 hHeld ?_
          refine ta 2 hHeld ?_
          refine ta 3 hHeld ?_
          refine ta 4 hHeld ?_
          refine ta 5 hHeld ?_
          refine ta 6 hHeld ?_
          refine wd ?_
          go_wp2_with fail
          refine handed_gen fun V5 hV_V5=> ?_
          refine neb2 hV_V5 hB ka kb ?_;clear hB ka kb c_ka c_kb;intro z_V5 hB ka c_ka kb c_kb
          clear hV_V5
          go_roundg (s.length - i)
          case measure=>have:=Hk.out;have:=Hi.out;omega
          case rel=>exact ⟨i+1,by rw [e3];rfl,by have:=Hk.out;have:=Hi.out;omega,by have:=Hi.out;omega,by have:=Hi.out;omega,hL,ka,kb,hB⟩
        · rw [if_neg c3] at hl
          have hL:=Lib.hid hl
          have q3:((x.toNat:Int)==(y.toNat:Int))=false:=by
            rw [beq_eq_false_iff_ne];intro h;exact c3 (UInt8.toNat_inj.1 (by omega))
          clear hl hk hi1 hi2 hi1' hi2' c3
          go_wp2_with fail
          refine wg fun V4 hV_V4=> ?_
          refine neb2 hV_V4 hB ka kb ?_;clear hB ka kb c_ka c_kb;intro z_V4 hB ka c_ka kb c_kb
          clear hV_V4
          refine dr (fun v=>Sm v V4 (w.heap.size)∧Sm v V4 (w.heap.size+1)∧(V4.heap.size≤v.heap.size)∧True) ⟨fun _=>rfl,fun _=>rfl,Nat.le_refl _,trivial⟩ fun V4d hV_V4d hHeld=> ?_
          have v_ka:=c_ka.1;have v_kb:=c_kb.1
          refine neb2 hV_V4d hB ka kb ?_;clear hB ka kb c_ka c_kb;intro z_V4d hB ka c_ka kb c_kb
          clear hV_V4d
          refine ta 0 hHeld ?_
          refine ta 1 hHeld ?_
          refine ta 2 hHeld ?_
          refine ta 3 hHeld ?_
          refine ta 4 hHeld ?_
          refine ta 5 hHeld ?_
          refine ta 6 hHeld ?_
          refine wd ?_
          go_wp2_with fail
          refine wg fun V5 hV_V5=> ?_
          refine neb2 hV_V5 hB ka kb ?_;clear hB ka kb c_ka c_kb;intro z_V5 hB ka c_ka kb c_kb
          clear hV_V5
          refine dr (fun v=>Sm v V5 (w.heap.size)∧Sm v V5 (w.heap.size+1)∧(V5.heap.size≤v.heap.size)∧True) ⟨fun _=>rfl,fun _=>rfl,Nat.le_refl _,trivial⟩ fun V5d hV_V5d hHeld=> ?_
          have v_ka:=c_ka.1;have v_kb:=c_kb.1
          refine neb2 hV_V5d hB ka kb ?_;clear hB ka kb c_ka c_kb;intro z_V5d hB ka c_ka kb c_kb
          clear hV_V5d
          refine ta 0 hHeld ?_
          refine ta 1 hHeld ?_
          refine ta 2 hHeld ?_
          refine ta 3 hHeld ?_
          refine ta 4 hHeld ?_
          refine ta 5 hHeld ?_
          refine ta 6 hHeld ?_
          refine rd 7 rfl fun K hK=> ?_
          go_simp
          refine ho hK hHeld fun hHeld=> ?_
          clear hK K
          refine wd ?_
          go_wp2_with fail
          go_ret
          exact ⟨by rw [←hL.out];first|rfl|simp,bel⟩
end
section
open Go.RowKit
attribute [local go_sem ↓] Go.wp_at_zero Go.wp_at_succ
attribute [local go_sem] str_len
theorem rright_calls (v : Value) (ts : List (List UInt8)) (hl : ts.length ≤ 50000) (w : World) (h : Rk w 1 v ts.length (ts.map strOf)) :
    Calls Tryz.prog 185 #[v] w fun e w'=>e= .returned (.bool (refRight ts))∧Below w.heap.size w w':=by
  obtain ⟨R,hR⟩: ∃R,refRight ts=R:=⟨_,rfl⟩
  rw [hR]
  have HR:=Lib.hid hR;clear hR
  have HK:=Lib.hid h
  obtain ⟨h1,A,cap,rfl,h2⟩:=h
  clear h1 h2
  go_enter Tryz.func185,Tryz.ntmps185
  go_wp2_with fail
  go_loopg [3] ts.length (fun k p wr=> ∃i:Nat,p= .int .i64 (i:Int)∧i+k=ts.length∧Hid (((ts.drop i).all (fun t=>decide (t.length≤40))&&decide (ts.length≤10))=R)∧Below w.heap.size w wr)
  case atStart=>exact ⟨0,rfl,by omega,HR,Below.refl _ _⟩
  case round=>
    obtain ⟨i,rfl,hk,Hl,hB⟩:=hrel
    by_cases hlt:i<ts.length
    · obtain ⟨k,rfl⟩: ∃k,gk=k+1:=⟨gk - 1,by omega⟩
      have hrk:=HK.out.below hB
      obtain ⟨t,ht⟩:=at_some hlt
      have hl2:=Hl.out
      rw [drop_at ht,List.all_cons] at hl2
      obtain ⟨h1,A',cap',hv,h2⟩:=hrk
      obtain ⟨g,cs,T,rfl,kg,hcs⟩:=h2 (by omega)
      obtain ⟨rfl, -,rfl⟩:=Value.slice.inj hv
      have hci:cs[i]? =some (strOf t):=by rw [hcs i (by omega),List.getElem?_map,ht];rfl
      have n1:decide ((i:Int)<(ts.length:Int))=true:=by simpa using hlt
      have n2:(i:Int)<(ts.length:Int):=by omega
      have e3:wrap64 ((i:Int)+1)=(i:Int)+1:=IntWalk.wrap64_in _ (by omega)
      have c_kg:=f3 kg;have l_kgwr:=lt_of kg
      by_cases h40:t.length≤40
      · have d1:decide ((40:Int)<(t.length:Int))=false:=by simp;omega
        rw [decide_eq_true h40,Bool.true_and] at hl2
        have HL:=Lib.hid hl2
        clear hl2 h40 ht hv h1 h2 hcs Hl
        go_wp2_with fail
        go_roundg k
        case measure=>omega
        case rel=>exact ⟨i+1,by first|rfl|(rw [e3];rfl),by omega,HL,hB⟩
      · have d1:decide ((40:Int)<(t.length:Int))=true:=by simp;omega
        rw [decide_eq_false h40] at hl2
        simp only [Bool.false_and] at hl2
        have HL:=Lib.hid hl2
        clear hl2 h40 ht hv h1 h2 hcs Hl
        go_wp2_with fail
        go_ret
        exact ⟨by rw [←HL.out];rfl,hB⟩
    · have hi:i=ts.length:=by omega
      have hl2:=Hl.out
      rw [hi,List.drop_length,List.all_nil,Bool.true_and] at hl2
      have HL:=Lib.hid hl2
      have n1:decide ((i:Int)<(ts.length:Int))=false:=by simpa using hlt
      clear hl2 Hl
      go_wp2_with fail
      go_ret
      exact ⟨by rw [←HL.out];first|rfl|(show Ending.returned (Value.bool (decide ((ts.length:Int)≤10)))=_;congr 2;exact decide_eq_decide.2 (by omega)),hB⟩
def Rd2 (w:World) (v:Value) (ds:List (Int×List UInt8)):Prop:=
  ∃A cap,v= .slice A ds.length cap∧(0<ds.length→ ∃ad,A=some ad∧ad.block<w.heap.size∧ ∀i d,ds[i]? =some d→(ad.add (i*2)).block<w.heap.size∧w.cell? (ad.add (i*2))=some (.int .i64 d.1)∧w.cell? ⟨(ad.add (i*2)).block,(ad.add (i*2)).off+1,none⟩=some (strOf d.2))
theorem Rd2.below {w w':World} {v:Value} {ds:List (Int×List UInt8)} (h:Rd2 w v ds) (hb:Below w.heap.size w w'):Rd2 w' v ds:=by
  obtain ⟨A,cap,rfl,h2⟩:=h
  refine ⟨A,cap,rfl,fun hn=> ?_⟩
  obtain ⟨ad,rfl,hg,hc⟩:=h2 hn
  refine ⟨ad,rfl,Nat.lt_of_lt_of_le hg hb.size,fun i d hd=> ?_⟩
  obtain ⟨h0,h1,h2⟩:=hc i d hd
  exact ⟨Nat.lt_of_lt_of_le h0 hb.size,(hb.cell h0).trans h1,(hb.cell (by exact h0)).trans h2⟩
theorem texts_calls (v : Value) (ds : List (Int × List UInt8)) (hl : ds.length ≤ 50000) (w : World) (h : Rd2 w v ds) :
    Calls Tryz.prog 41 #[v] w fun e w'=> ∃v',e= .returned v'∧w'.ownsRow w.heap.size 9 1 v' ds.length ((ds.map (·.2)).map strOf)∧Below w.heap.size w w':=by
  have HK:=Lib.hid h
  obtain ⟨A,cap,rfl,h2⟩:=h
  clear h2
  go_enter Tryz.func41,Tryz.ntmps41
  go_wp2_with fail
  go_loopg [3,4] ds.length (fun k p q wr=> ∃i:Nat,q= .int .i64 (i:Int)∧i+k=ds.length∧Hid (wr.ownsRow w.heap.size 9 1 p i (((ds.take i).map (·.2)).map strOf))∧Hid (Below w.heap.size w wr))
  case atStart=>exact ⟨0,rfl,by omega,Lib.hid (own_nil _ _ _ _),Lib.hid (Below.refl _ _)⟩
  case round=>
    obtain ⟨i,rfl,hk,Hown,HB⟩:=hrel
    by_cases hlt:i<ds.length
    · obtain ⟨k,rfl⟩: ∃k,gk=k+1:=⟨gk - 1,by omega⟩
      obtain ⟨d,hd⟩:=at_some hlt
      obtain ⟨A',cap',hv,h2⟩:=HK.out.below HB.out
      obtain ⟨ad,rfl,hg,hc⟩:=h2 (by omega)
      obtain ⟨rfl, -,rfl⟩:=Value.slice.inj hv
      obtain ⟨-,c1,c2⟩:=hc i d hd
      have n1:decide ((i:Int)<(ds.length:Int))=true:=by simpa using hlt
      have n2:(i:Int)<(ds.length:Int):=by omega
      have e3:wrap64 ((i:Int)+1)=(i:Int)+1:=IntWalk.wrap64_in _ (by omega)
      have htake:Hid (((ds.take (i+1)).map (·.2)).map strOf=((ds.take i).map (·.2)).map strOf++[strOf d.2]):=Lib.hid (by
        rw [List.take_succ_eq_append_getElem hlt,List.map_append,List.map_append,(List.getElem_eq_iff hlt).2 hd];rfl)
      have hw0:=HB.out.size
      clear h2 hc hv hd
      replace c2:wr.cell? ⟨(ad.add (i*2)).block,(ad.add (i*2)).off+1,none⟩=some (.string ⟨d.2.toArray⟩):=c2
      go_wp2_with (at_builtin;refine wpList_push _ (by rfl) _ _ 75 (by rfl) (w.heap.size) 9 (.string ⟨#[]⟩) 1 16 Tryz.underlying75 (by kernel_rfl) (by rfl) (by omega) _ _ _ (by rfl) Hown.out _ (by rfl) (by rfl) (by simp [Value.oneCell',strOf]) (by unfold maxLen;omega) (by omega) (by omega) ?_;intro g_W c_W W5 hown_W hlow_W hlt_W)
      go_wp2_with fail
      go_roundg k
      case measure=>omega
      case rel=>exact ⟨i+1,by first|rfl|(rw [e3];rfl),by omega,Lib.hid (by rw [htake.out];exact hown_W),Lib.hid (low_step HB.out (Nat.le_refl _) hlow_W)⟩
    · have hi:i=ds.length:=by omega
      have n1:decide ((i:Int)<(ds.length:Int))=false:=by simpa using hlt
      have hown:=Hown.out
      rw [hi,List.take_length] at hown
      have HO:=Lib.hid hown
      clear hown Hown
      go_wp2_with fail
      go_ret
      exact ⟨u3,rfl,HO.out,HB.out⟩
end
section
open Go.RowKit Go.Sort
theorem lessL_irr: ∀s:List UInt8,lessL false s s=false
  | []=>rfl
  | x::s=>by unfold lessL;rw [if_pos rfl];exact lessL_irr s
theorem lessL_asymm (d d':Bool) (hd:d=true→d'=false): ∀s t:List UInt8,lessL d s t=true→lessL d' t s=false
  | [],[],h=>by unfold lessL at h⊢;exact hd h
  | [],_::_,_=>rfl
  | _::_,[],h=>by unfold lessL at h;cases h
  | x::s,y::t,h=>by
    unfold lessL at h⊢
    by_cases e:x=y
    · rw [if_pos e] at h;rw [if_pos e.symm];exact lessL_asymm d d' hd s t h
    · rw [if_neg e] at h;rw [if_neg (fun q=>e q.symm)]
      simp only [decide_eq_true_eq,decide_eq_false_iff_not] at h⊢;omega
theorem lessL_trans (d1 d2 d3:Bool) (hd:d1=true→d2=true→d3=true): ∀s t u:List UInt8,lessL d1 s t=true→lessL d2 t u=true→lessL d3 s u=true
  | [],[],[],h1,h2=>by unfold lessL at h1 h2⊢;exact hd h1 h2
  | [],_,_::_,_,_=>rfl
  | [],_::_,[],_,h2=>by unfold lessL at h2;cases h2
  | _::_,[],_,h1,_=>by unfold lessL at h1;cases h1
  | _::_,_::_,[],_,h2=>by unfold lessL at h2;cases h2
  | x::s,y::t,z::u,h1,h2=>by
    unfold lessL at h1 h2⊢
    by_cases e1:x=y
    · rw [if_pos e1] at h1
      by_cases e2:y=z
      · rw [if_pos e2] at h2;rw [if_pos (e1.trans e2)];exact lessL_trans d1 d2 d3 hd s t u h1 h2
      · rw [if_neg e2] at h2;rw [if_neg (by rw [e1];exact e2),e1];exact h2
    · rw [if_neg e1] at h1
      by_cases e2:y=z
      · rw [if_neg (by rw [←e2];exact e1),←e2];exact h1
      · rw [if_neg e2] at h2
        simp only [decide_eq_true_eq] at h1 h2
        have e3:x≠z:=fun q=>by rw [q] at h1;omega
        rw [if_neg e3];simp only [decide_eq_true_eq];omega
theorem lessL_total (d d':Bool): ∀s t:List UInt8,lessL d s t=false→lessL d' t s=false→s=t∧d=false∧d'=false
  | [],[],h1,h2=>by unfold lessL at h1 h2;exact ⟨rfl,h1,h2⟩
  | [],_::_,h1,_=>by unfold lessL at h1;cases h1
  | _::_,[],_,h2=>by unfold lessL at h2;cases h2
  | x::s,y::t,h1,h2=>by
    unfold lessL at h1 h2
    by_cases e:x=y
    · rw [if_pos e] at h1;rw [if_pos e.symm] at h2
      obtain ⟨a,b⟩:=lessL_total d d' s t h1 h2
      exact ⟨by rw [e,a],b⟩
    · rw [if_neg e] at h1;rw [if_neg (fun q=>e q.symm)] at h2
      simp only [decide_eq_false_iff_not] at h1 h2
      exact absurd (UInt8.toNat_inj.1 (by omega)) e
def RowIn (ts:List (List UInt8)) (r:Nat×Nat):Prop:= ∃t,ts[r.1]? =some t∧r.2≤t.length
theorem rl_irr (ts:List (List UInt8)) (x:Nat×Nat):refLess ts x x=false:=by
  unfold refLess
  rw [show decide (x.1<x.1)=false by simp];exact lessL_irr _
theorem rl_asymm {ts:List (List UInt8)} {x y:Nat×Nat} (h:refLess ts x y=true):refLess ts y x=false:=
  lessL_asymm _ _ (fun h=>by simp only [decide_eq_true_eq,decide_eq_false_iff_not] at h⊢;omega) _ _ h
theorem rl_trans {ts:List (List UInt8)} {x y z:Nat×Nat} (h1:refLess ts x y=true) (h2:refLess ts y z=true):refLess ts x z=true:=
  lessL_trans _ _ _ (fun h h'=>by simp only [decide_eq_true_eq] at h h'⊢;omega) _ _ _ h1 h2
theorem rl_total {ts:List (List UInt8)} {x y:Nat×Nat} (hx:RowIn ts x) (hy:RowIn ts y) (h1:refLess ts x y=false) (h2:refLess ts y x=false):x=y:=by
  obtain ⟨t1,ht1,ha1⟩:=hx
  obtain ⟨t2,ht2,ha2⟩:=hy
  unfold refLess at h1 h2
  obtain ⟨hs,hd1,hd2⟩:=lessL_total _ _ _ _ h1 h2
  simp only [decide_eq_false_iff_not] at hd1 hd2
  have e1:x.1=y.1:=by omega
  rw [getD_at ht1,getD_at ht2] at hs
  rw [e1,ht2] at ht1
  obtain rfl:=Option.some.inj ht1
  have:=congrArg List.length hs
  rw [List.length_drop,List.length_drop] at this
  exact Prod.ext e1 (by omega)
theorem take_while {ts:List (List UInt8)} (r:Nat×Nat): ∀out:List (Nat×Nat),∀x,x∈out.take (refAt ts out r)→refLess ts x r=true
  | [],x,h=>by simp at h
  | y::out,x,h=>by
    unfold refAt at h
    rw [List.takeWhile_cons] at h
    by_cases c:refLess ts y r=true
    · rw [if_pos c,List.length_cons,List.take_succ_cons] at h
      rcases List.mem_cons.1 h with rfl|h
      · exact c
      · exact take_while r out x h
    · rw [if_neg c] at h;simp at h
theorem drop_while {ts:List (List UInt8)} (r:Nat×Nat): ∀out:List (Nat×Nat),(∀y,(out.drop (refAt ts out r)).head? =some y→refLess ts y r=false)
  | [],y,h=>by simp at h
  | z::out,y,h=>by
    unfold refAt at h
    rw [List.takeWhile_cons] at h
    by_cases c:refLess ts z r=true
    · rw [if_pos c,List.length_cons,List.drop_succ_cons] at h
      exact drop_while r out y h
    · rw [if_neg c] at h;simp at h;subst h;simpa using c
theorem ins_sorted {ts:List (List UInt8)} {out:List (Nat×Nat)} {r:Nat×Nat} (hr:RowIn ts r) (ho: ∀x,x∈out→RowIn ts x) (hn:r∉out) (h:out.Pairwise fun x y=>refLess ts x y=true):(refIns ts out r).Pairwise fun x y=>refLess ts x y=true:=by
  unfold refIns
  have ha:=take_while (ts:=ts) r out
  have hd:=drop_while (ts:=ts) r out
  have hsplit:out.take (refAt ts out r)++out.drop (refAt ts out r)=out:=List.take_append_drop _ _
  have hmem: ∀x,x∈out.drop (refAt ts out r)→x∈out:=fun x hx=>List.mem_of_mem_drop hx
  rw [←hsplit] at h
  obtain ⟨h1,h2,h3⟩:=List.pairwise_append.1 h
  generalize out.take (refAt ts out r)=A at ha h1 h3 hsplit⊢
  generalize out.drop (refAt ts out r)=B at hd h2 h3 hmem hsplit⊢
  have hb: ∀y,y∈B→refLess ts r y=true:=by
    cases B with
    | nil=>intro y hy;simp at hy
    | cons z B=>
      have hz:refLess ts r z=true:=by
        have h0:=hd z rfl
        cases hc:refLess ts r z with
        | true=>rfl
        | false=>exact absurd (rl_total hr (ho z (hmem z (by simp))) hc h0) (fun e=>hn (e▸hmem z (by simp)))
      intro y hy
      rcases List.mem_cons.1 hy with rfl|hy
      · exact hz
      · exact rl_trans hz ((List.pairwise_cons.1 h2).1 y hy)
  refine List.pairwise_append.2 ⟨h1,List.pairwise_cons.2 ⟨hb,h2⟩,fun x hx y hy=> ?_⟩
  rcases List.mem_cons.1 hy with rfl|hy
  · exact ha x hx
  · exact h3 x hx y hy
theorem fold_sorted {ts:List (List UInt8)}: ∀(l out:List (Nat×Nat)),(∀x,x∈l→RowIn ts x)→(∀x,x∈out→RowIn ts x)→(∀x,x∈l→x∉out)→l.Nodup→(out.Pairwise fun x y=>refLess ts x y=true)→((l.foldl (refIns ts) out).Pairwise fun x y=>refLess ts x y=true)
  | [],out,_,_,_,_,h=>h
  | r::l,out,hl,ho,hn,hd,h=>by
    rw [List.foldl_cons]
    obtain ⟨hd1,hd2⟩:=List.nodup_cons.1 hd
    refine fold_sorted l _ (fun x hx=>hl x (by simp [hx])) (fun x hx=> ?_) (fun x hx hm=> ?_) hd2 (ins_sorted (hl r (by simp)) ho (hn r (by simp)) h)
    · rcases (refIns_mem ts out r x).1 hx with rfl|hx
      · exact hl _ (by simp)
      · exact ho x hx
    · rcases (refIns_mem ts out r x).1 hm with rfl|hm
      · exact hd1 hx
      · exact hn x (by simp [hx]) hm
theorem ins_perm (ts:List (List UInt8)) (out:List (Nat×Nat)) (r:Nat×Nat):(refIns ts out r).Perm (r::out):=by
  unfold refIns
  refine List.perm_middle.trans ?_
  rw [List.take_append_drop]
theorem fold_perm (ts:List (List UInt8)): ∀(l out:List (Nat×Nat)),(l.foldl (refIns ts) out).Perm (l++out)
  | [],out=>List.Perm.refl _
  | r::l,out=>by
    rw [List.foldl_cons]
    refine (fold_perm ts l _).trans ?_
    refine (List.Perm.append_left l (ins_perm ts out r)).trans ?_
    exact List.perm_middle
theorem upto_nodup (ts:List (List UInt8)): ∀d a,(upto ts d a).Nodup
  | 0,0=>List.nodup_nil
  | d+1,0=>by
    rw [←upto_next]
    have h0:=upto_nodup ts d 0
    generalize (ts.getD d []).length+1=n
    induction n with
    | zero=>exact h0
    | succ n ih=>
      rw [upto_snoc]
      refine List.nodup_append.2 ⟨ih,by simp,fun x hx y hy=> ?_⟩
      rw [List.mem_singleton.1 hy]
      rintro rfl
      rcases upto_mem hx with ⟨h1, -⟩|⟨-,h1⟩
      · exact Nat.lt_irrefl _ h1
      · exact Nat.lt_irrefl _ h1
  | d,a+1=>by
    rw [upto_snoc]
    refine List.nodup_append.2 ⟨upto_nodup ts d a,by simp,fun x hx y hy=> ?_⟩
    rw [List.mem_singleton.1 hy]
    rintro rfl
    rcases upto_mem hx with ⟨h1, -⟩|⟨-,h1⟩
    · exact Nat.lt_irrefl _ h1
    · exact Nat.lt_irrefl _ h1
theorem upto_in {ts:List (List UInt8)} {x:Nat×Nat} (h:x∈upto ts ts.length 0):RowIn ts x:=by
  rcases upto_mem h with ⟨h1,h2⟩|⟨-,h1⟩
  · obtain ⟨t,ht⟩:=at_some h1
    rw [getD_at ht] at h2
    exact ⟨t,ht,h2⟩
  · omega
theorem all_sorted (ts:List (List UInt8)):(refFold ts (upto ts ts.length 0)).Pairwise fun x y=>refLess ts x y=true:=
  fold_sorted _ _ (fun _ h=>upto_in h) (by simp) (by simp) (upto_nodup ts _ _) List.Pairwise.nil
theorem all_perm (ts:List (List UInt8)):(refFold ts (upto ts ts.length 0)).Perm (upto ts ts.length 0):=by
  have:=fold_perm ts (upto ts ts.length 0) []
  rw [List.append_nil] at this
  exact this
theorem all_in {ts:List (List UInt8)} {x:Nat×Nat} (h:x∈refFold ts (upto ts ts.length 0)):RowIn ts x:=upto_in ((refFold_mem ts _ x).1 h)
def Srt (ts:List (List UInt8)) (L:List (Nat×Nat)):Prop:=L.Pairwise fun x y=>refLess ts x y=true
theorem srt_unique {ts:List (List UInt8)}: ∀{A B:List (Nat×Nat)},Srt ts A→Srt ts B→A.Perm B→A=B
  | [],B,_,_,hp=>(List.nil_perm.1 hp).symm
  | x::A,[],_,_,hp=>absurd hp.symm (by simp)
  | x::A,y::B,ha,hb,hp=>by
    obtain ⟨a1,a2⟩:=List.pairwise_cons.1 ha
    obtain ⟨b1,b2⟩:=List.pairwise_cons.1 hb
    have e:x=y:=by
      have hx:x∈y::B:=hp.mem_iff.1 (by simp)
      have hy:y∈x::A:=hp.mem_iff.2 (by simp)
      rcases List.mem_cons.1 hx with h|h
      · exact h
      · rcases List.mem_cons.1 hy with h'|h'
        · exact h'.symm
        · have h1:=b1 x h
          rw [rl_asymm (a1 y h')] at h1;cases h1
    subst e
    rw [srt_unique a2 b2 hp.cons_inv]
abbrev RowT (ts:List (List UInt8)):={r:Nat×Nat//RowIn ts r}
def cmpR (ts:List (List UInt8)) (x y:RowT ts):Int:=if refLess ts x.1 y.1 then -1 else 1
theorem lt_cmpR (ts:List (List UInt8)) (x y:RowT ts):decide (cmpR ts x y<0)=refLess ts x.1 y.1:=by
  unfold cmpR
  cases refLess ts x.1 y.1<;>rfl
def rowsT (ts:List (List UInt8)) (l:List (Nat×Nat)) (h: ∀x,x∈l→RowIn ts x):List (RowT ts):=l.pmap Subtype.mk h
theorem rowsT_val {ts:List (List UInt8)} (l:List (Nat×Nat)) (h: ∀x,x∈l→RowIn ts x):(rowsT ts l h).map (·.1)=l:=by
  unfold rowsT;rw [List.map_pmap];simp
end
section
open Go.RowKit
def refsTo (used:Nat→Bool) (node:Nat→Nd) (h:Int):Nat→Nat
  | 0=>0
  | d+1=>refsTo used node h d+(if used (d+1) then (node (d+1)).kids.count h else 0)
def Ar.refs (s:Ar) (h:Int):Nat:=refsTo s.used s.node h s.size
theorem kids_count_le (n:Nd) (h:Int):n.kids.count h≤4:=by
  have:=List.count_le_length (a:=h) (l:=n.kids)
  exact this
theorem refsTo_le (used:Nat→Bool) (node:Nat→Nd) (h:Int): ∀d,refsTo used node h d≤4*d
  | 0=>by simp [refsTo]
  | d+1=>by
    have:=refsTo_le used node h d
    have:=kids_count_le (node (d+1)) h
    unfold refsTo
    split<;>omega
theorem refsTo_far (used:Nat→Bool) (node:Nat→Nd) (h:Int) (f:Nat) (u:Bool) (n:Nd): ∀d,d<f→refsTo (upd used f u) (upd node f n) h d=refsTo used node h d
  | 0,_=>rfl
  | d+1,hd=>by
    unfold refsTo
    rw [refsTo_far used node h f u n d (by omega),upd_ne _ _ _ _ (show d+1≠f by omega),upd_ne _ _ _ _ (show d+1≠f by omega)]
theorem refsTo_upd (used : Nat → Bool) (node : Nat → Nd) (h : Int) (f : Nat) (u : Bool) (n : Nd) (h1 : 1 ≤ f) : ∀ d, f ≤ d →
    refsTo (upd used f u) (upd node f n) h d+(if used f then (node f).kids.count h else 0)=refsTo used node h d+(if u then n.kids.count h else 0)
  | 0,hd=>by omega
  | d+1,hd=>by
    unfold refsTo
    by_cases e:f=d+1
    · subst e
      rw [refsTo_far used node h (d+1) u n d (by omega),upd_self,upd_self];omega
    · have:=refsTo_upd used node h f u n h1 d (by omega)
      rw [upd_ne _ _ _ _ (show d+1≠f by omega),upd_ne _ _ _ _ (show d+1≠f by omega)];omega
theorem refsTo_pos (used:Nat→Bool) (node:Nat→Nd) (h:Int) (n:Nat) (h1:1≤n) (hu:used n=true) (hk:h∈(node n).kids): ∀d,n≤d→0<refsTo used node h d
  | 0,hd=>by omega
  | d+1,hd=>by
    unfold refsTo
    by_cases e:n=d+1
    · subst e
      rw [if_pos hu]
      have:=List.count_pos_iff.2 hk
      omega
    · have:=refsTo_pos used node h n h1 hu hk d (by omega)
      omega
theorem refsTo_zero (used:Nat→Bool) (node:Nat→Nd) (h:Int): ∀d,(∀n,1≤n→n≤d→used n=true→h∉(node n).kids)→refsTo used node h d=0
  | 0,_=>rfl
  | d+1,H=>by
    unfold refsTo
    rw [refsTo_zero used node h d (fun n a b c=>H n a (by omega) c)]
    by_cases hu:used (d+1)=true
    · rw [if_pos hu,List.count_eq_zero.2 (H (d+1) (by omega) (by omega) hu)]
    · rw [if_neg hu]
def usedTo (used:Nat→Bool):Nat→Nat
  | 0=>0
  | d+1=>usedTo used d+(if used (d+1) then 1 else 0)
def Ar.busyN (s:Ar):Nat:=usedTo s.used s.size
theorem usedTo_le (used:Nat→Bool): ∀d,usedTo used d≤d
  | 0=>Nat.le_refl _
  | d+1=>by have:=usedTo_le used d;unfold usedTo;split<;>omega
theorem usedTo_far (used:Nat→Bool) (f:Nat) (u:Bool): ∀d,d<f→usedTo (upd used f u) d=usedTo used d
  | 0,_=>rfl
  | d+1,hd=>by
    unfold usedTo
    rw [usedTo_far used f u d (by omega),upd_ne _ _ _ _ (show d+1≠f by omega)]
theorem usedTo_upd (used:Nat→Bool) (f:Nat) (u:Bool) (h1:1≤f): ∀d,f≤d→usedTo (upd used f u) d+(if used f then 1 else 0)=usedTo used d+(if u then 1 else 0)
  | 0,hd=>by omega
  | d+1,hd=>by
    unfold usedTo
    by_cases e:f=d+1
    · subst e
      rw [usedTo_far used (d+1) u d (by omega),upd_self];omega
    · have:=usedTo_upd used f u h1 d (by omega)
      rw [upd_ne _ _ _ _ (show d+1≠f by omega)];omega
theorem usedTo_all (used:Nat→Bool): ∀d,(∀n,1≤n→n≤d→used n=true)→usedTo used d=d
  | 0,_=>rfl
  | d+1,h=>by
    unfold usedTo
    rw [usedTo_all used d (fun n a b=>h n a (by omega)),if_pos (h (d+1) (by omega) (by omega))]
theorem usedTo_none (used:Nat→Bool): ∀d,(∀n,1≤n→n≤d→used n=false)→usedTo used d=0
  | 0,_=>rfl
  | d+1,h=>by
    unfold usedTo
    rw [usedTo_none used d (fun n a b=>h n a (by omega)),h (d+1) (by omega) (by omega)];rfl
theorem usedTo_congr (u u':Nat→Bool): ∀d,(∀n,1≤n→n≤d→u n=u' n)→usedTo u d=usedTo u' d
  | 0,_=>rfl
  | d+1,h=>by
    unfold usedTo
    rw [usedTo_congr u u' d (fun n a b=>h n a (by omega)),h (d+1) (by omega) (by omega)]
theorem freeFrom_zero (used:Nat→Bool) (size:Nat): ∀d h,1≤h→freeFrom used size d h=0→ ∀n,h≤n→n<h+d→used n=true
  | 0,h,_,_,n,a,b=>by omega
  | d+1,h,h1,hf,n,a,b=>by
    unfold freeFrom at hf
    by_cases hu:used h=true
    · rw [if_pos hu] at hf
      by_cases e:n=h
      · rw [e];exact hu
      · exact freeFrom_zero used size d (h+1) (by omega) hf n (by omega) (by omega)
    · rw [if_neg hu] at hf;omega
structure Inv (s:Ar) (H:List Int):Prop where
  wq:s.Wq
  hl:H.length≤1000000
  cnt: ∀n:Nat,1≤n→n≤s.size→s.used n=true→s.count n=((s.refs n+H.count (n:Int):Nat):Int)
  zero: ∀n:Nat,1≤n→n≤s.size→s.used n=true→s.count n=0→n∈s.wait
  kid: ∀n:Nat,1≤n→n≤s.size→s.used n=true→ ∀k∈(s.node n).kids,k≠0→s.has k=true
  held: ∀h∈H,h≠0→s.has h=true
  rank: ∃rk:Nat→Nat,∀n:Nat,1≤n→n≤s.size→s.used n=true→ ∀k∈(s.node n).kids,k≠0→rk k.toNat<rk n
  busy:s.busy=(s.busyN:Int)
theorem has_iff {s:Ar} {h:Int}:s.has h=true↔1≤h∧h≤s.size∧s.used h.toNat=true:=by
  unfold Ar.has
  simp only [Bool.and_eq_true,decide_eq_true_eq]
theorem has_nat {s:Ar} {h:Int} (hh:s.has h=true): ∃n:Nat,h=n∧1≤n∧n≤s.size∧s.used n=true:=by
  obtain ⟨h1,h2,h3⟩:=has_iff.1 hh
  exact ⟨h.toNat,by omega,by omega,by omega,h3⟩
theorem Inv.refs_le {s:Ar} {H:List Int} (h:Inv s H) (x:Int):s.refs x+H.count x≤1024000:=by
  have h1:=refsTo_le s.used s.node x s.size
  have h2:=h.wq.small
  have h3:=List.count_le_length (a:=x) (l:=H)
  have h4:=h.hl
  unfold Ar.refs
  omega
theorem Inv.perm {s:Ar} {H H':List Int} (h:Inv s H) (hp:H.Perm H'):Inv s H':=
  ⟨h.wq,by rw [←hp.length_eq];exact h.hl,fun n h1 h2 h3=>by rw [←hp.count_eq];exact h.cnt n h1 h2 h3,h.zero,h.kid,fun x hx=>h.held x (hp.mem_iff.2 hx),h.rank,h.busy⟩
theorem Inv.pos {s:Ar} {H:List Int} (h:Inv s H) {x:Int} (hx:x∈H) (h0:x≠0):s.cnt x≠0:=by
  obtain ⟨n,rfl,h1,h2,h3⟩:=has_nat (h.held x hx h0)
  rw [Ar.cnt_nat h1 h2,h.cnt n h1 h2 h3]
  have:=List.count_pos_iff.2 hx
  omega
theorem Inv.kid_pos {s:Ar} {H:List Int} (h:Inv s H) {n:Nat} (n1:1≤n) (n2:n≤s.size) (n3:s.used n=true) {k:Int} (hk:k∈(s.node n).kids) (h0:k≠0):s.cnt k≠0:=by
  obtain ⟨m,rfl,h1,h2,h3⟩:=has_nat (h.kid n n1 n2 n3 k hk h0)
  rw [Ar.cnt_nat h1 h2,h.cnt m h1 h2 h3]
  have:=refsTo_pos s.used s.node (m:Int) n n1 n3 hk s.size n2
  unfold Ar.refs
  omega
theorem Inv.zero_cons {s:Ar} {H:List Int} (h:Inv s H) (hl:H.length≤999999):Inv s (0::H):=by
  refine ⟨h.wq,by simp;omega,fun n h1 h2 h3=> ?_,h.zero,h.kid,fun x hx h0=> ?_,h.rank,h.busy⟩
  · rw [List.count_cons_of_ne (by omega)];exact h.cnt n h1 h2 h3
  · rcases List.mem_cons.1 hx with rfl|hx
    · exact absurd rfl h0
    · exact h.held x hx h0
theorem Inv.keep {s:Ar} {H:List Int} (h:Inv s H) (hl:H.length≤999999) {x:Int} (hx:s.cnt x≠0):Inv (s.keep x) (x::H):=by
  have hW:=h.wq.keep x
  have hsz:=Ar.keep_size s x
  obtain ⟨n,rfl,h1,h2,h3⟩:=Ar.cnt_pos hx
  have hu:s.used n=true:=by
    cases hu:s.used n with
    | true=>rfl
    | false=>rw [h.wq.free n hu] at h3;exact absurd h3.symm hx
  have hb:=h.refs_le (n:Int)
  have hc:=h.cnt n h1 h2 hu
  have hk:s.keep (n:Int)={s with count:=upd s.count n (wrap64 (s.cnt n+1))}:=by unfold Ar.keep;rw [if_neg hx];rfl
  have hw:wrap64 (s.cnt n+1)=s.count n+1:=by rw [Ar.cnt_nat h1 h2,IntWalk.wrap64_in _ (by omega)]
  rw [hw] at hk
  rw [hk] at hW⊢
  refine ⟨hW,by simp;omega,fun m m1 m2 m3=> ?_,fun m m1 m2 m3 m4=> ?_,h.kid,fun y hy h0=> ?_,h.rank,h.busy⟩
  · show upd s.count n (s.count n+1) m=((s.refs m+_:Nat):Int)
    by_cases e:m=n
    · subst e
      rw [upd_self,hc,List.count_cons_self];omega
    · rw [upd_ne _ _ _ _ e,List.count_cons_of_ne (by omega)];exact h.cnt m m1 m2 m3
  · replace m4:upd s.count n (s.count n+1) m=0:=m4
    by_cases e:m=n
    · subst e;rw [upd_self,hc] at m4;omega
    · rw [upd_ne _ _ _ _ e] at m4;exact h.zero m m1 m2 m3 m4
  · rcases List.mem_cons.1 hy with rfl|hy
    · exact has_iff.2 ⟨by omega,by show (n:Int)≤(s.size:Int);omega,by simpa using hu⟩
    · exact h.held y hy h0
theorem Inv.tail_zero {s:Ar} {H:List Int} (h:Inv s (0::H)):Inv s H:=
  ⟨h.wq,by have:=h.hl;simp at this;omega,fun n a b c=>by rw [h.cnt n a b c,List.count_cons_of_ne (by omega)],h.zero,h.kid,fun x hx=>h.held x (List.mem_cons_of_mem _ hx),h.rank,h.busy⟩
theorem cnt_zero (s:Ar):s.cnt 0=0:=by unfold Ar.cnt;rw [if_neg (by omega)]
theorem drop_zero (s:Ar):s.drop 0=s:=by unfold Ar.drop;rw [if_pos (cnt_zero s)]
theorem keep_zero (s:Ar):s.keep 0=s:=by unfold Ar.keep;rw [if_pos (cnt_zero s)]
theorem Inv.drop {s:Ar} {H:List Int} {x:Int} (h:Inv s (x::H)):Inv (s.drop x) H:=by
  by_cases h0:x=0
  · subst h0
    rw [drop_zero];exact h.tail_zero
  have hW:=h.wq.drop x
  obtain ⟨n,rfl,h1,h2,hu⟩:=has_nat (h.held x (by simp) h0)
  have hc:=h.cnt n h1 h2 hu
  have hb:=h.refs_le (n:Int)
  rw [List.count_cons_self] at hc hb
  have hcn:s.cnt (n:Int)=s.count n:=Ar.cnt_nat h1 h2
  have hne:s.cnt (n:Int)≠0:=by rw [hcn,hc];omega
  have hw:wrap64 (s.cnt n - 1)=s.count n - 1:=by rw [hcn,IntWalk.wrap64_in _ (by omega)]
  have hk:s.drop (n:Int)={s with count:=upd s.count n (s.count n - 1),wait:=if s.count n - 1=0 then s.wait++[n] else s.wait}:=by
    unfold Ar.drop;rw [if_neg hne,hw];simp
  rw [hk] at hW⊢
  refine ⟨hW,by have:=h.hl;simp at this;omega,fun m m1 m2 m3=> ?_,fun m m1 m2 m3 m4=> ?_,h.kid,fun y hy h0=>h.held y (List.mem_cons_of_mem _ hy) h0,h.rank,h.busy⟩
  · show upd s.count n (s.count n - 1) m=((s.refs m+H.count (m:Int):Nat):Int)
    by_cases e:m=n
    · subst e
      rw [upd_self,hc];omega
    · rw [upd_ne _ _ _ _ e]
      have:=h.cnt m m1 m2 m3
      rw [List.count_cons_of_ne (by omega)] at this;exact this
  · replace m4:upd s.count n (s.count n - 1) m=0:=m4
    show m∈(if s.count n - 1=0 then s.wait++[n] else s.wait)
    by_cases e:m=n
    · subst e;rw [upd_self] at m4;rw [if_pos m4];simp
    · rw [upd_ne _ _ _ _ e] at m4
      have:=h.zero m m1 m2 m3 m4
      split<;>simp [this]
theorem Inv.dropAll {H:List Int}: ∀{l:List Int} {s:Ar},Inv s (l++H)→Inv (s.dropAll l) H
  | [],_,h=>h
  | _::l,_,h=>Inv.dropAll (l:=l) h.drop
structure Grow (s s':Ar):Prop where
  size:s'.size=s.size
  used: ∀n,s.used n=true→s'.used n=true
  node: ∀n,s.used n=true→s'.node n=s.node n
theorem Grow.refl (s:Ar):Grow s s:=⟨rfl,fun _ h=>h,fun _ _=>rfl⟩
theorem Grow.trans {a b c:Ar} (h1:Grow a b) (h2:Grow b c):Grow a c:=⟨h2.size.trans h1.size,fun n h=>h2.used n (h1.used n h),fun n h=>(h2.node n (h1.used n h)).trans (h1.node n h)⟩
theorem Grow.keep (s:Ar) (x:Int):Grow s (s.keep x):=by unfold Ar.keep;split<;>exact ⟨rfl,fun _ h=>h,fun _ _=>rfl⟩
theorem Grow.drop (s:Ar) (x:Int):Grow s (s.drop x):=by unfold Ar.drop;split<;>exact ⟨rfl,fun _ h=>h,fun _ _=>rfl⟩
theorem Grow.dropAll: ∀(l:List Int) (s:Ar),Grow s (s.dropAll l)
  | [],s=>Grow.refl s
  | x::l,s=>(Grow.drop s x).trans (Grow.dropAll l _)
theorem busyN_keep (s:Ar) (x:Int):(s.keep x).busyN=s.busyN:=by unfold Ar.keep;split<;>rfl
theorem busyN_drop (s:Ar) (x:Int):(s.drop x).busyN=s.busyN:=by unfold Ar.drop;split<;>rfl
theorem busyN_dropAll: ∀(l:List Int) (s:Ar),(s.dropAll l).busyN=s.busyN
  | [],_=>rfl
  | x::l,s=>(busyN_dropAll l (s.drop x)).trans (busyN_drop s x)
theorem incAll_eq: ∀(l:List Int) (c:Nat→Int) (B:Int),(∀k∈l,k≠0→1≤k∧0≤c k.toNat∧c k.toNat≤B)→B+l.length≤4000000000000000000→ ∀m:Nat,1≤m→incAll c l m=c m+l.count (m:Int)
  | [],c,_,_,_,m,_=>by simp [incAll]
  | k::l,c,B,hk,hB,m,hm=>by
    unfold incAll
    rw [List.length_cons] at hB
    by_cases h0:k=0
    · subst h0
      rw [if_pos rfl,incAll_eq l c B (fun x hx=>hk x (by simp [hx])) (by omega) m hm,List.count_cons_of_ne (by omega)]
    · obtain ⟨k1,k2,k3⟩:=hk k (by simp) h0
      have hw:wrap64 (c k.toNat+1)=c k.toNat+1:=IntWalk.wrap64_in _ (by omega)
      rw [if_neg h0,hw,incAll_eq l _ (B+1) (fun x hx hx0=> ?_) (by omega) m hm]
      · by_cases e:m=k.toNat
        · have:(m:Int)=k:=by omega
          rw [this,List.count_cons_self,e,upd_self];omega
        · rw [upd_ne _ _ _ _ e,List.count_cons_of_ne (by omega)]
      · obtain ⟨x1,x2,x3⟩:=hk x (by simp [hx]) hx0
        refine ⟨x1,?_⟩
        by_cases e:x.toNat=k.toNat
        · rw [e,upd_self];omega
        · rw [upd_ne _ _ _ _ e];omega
theorem Inv.used_of {s:Ar} {H:List Int} (h:Inv s H) {n:Nat} (hc:s.cnt (n:Int)≠0):1≤n∧n≤s.size∧s.used n=true:=by
  obtain ⟨m,e,h1,h2,h3⟩:=Ar.cnt_pos hc
  obtain rfl:n=m:=by omega
  refine ⟨h1,h2,?_⟩
  cases hu:s.used n with
  | true=>rfl
  | false=>rw [h.wq.free n hu] at h3;exact absurd h3.symm hc
theorem kid_mem {n:Nd}:n.k0∈n.kids∧n.k1∈n.kids∧n.k2∈n.kids∧n.k3∈n.kids:=by simp [Nd.kids]
theorem Inv.make {s : Ar} {H : List Int} (h : Inv s H) (hl : H.length ≤ 999999) (n : Nd) (ht : 1 ≤ n.tag ∧ n.tag ≤ 6) (hn : U64 n.a) (hk : ∀ k ∈ n.kids, k ≠ 0 → s.cnt k ≠ 0) :
    (s.make n=(0,2,s)∧s.busyN=s.size)∨
    ∃f:Nat,1≤f∧f≤s.size∧s.used f=false∧(s.make n).1=f∧(s.make n).2.1=0∧Inv (s.make n).2.2 (f::H)∧Grow s (s.make n).2.2∧(s.make n).2.2.used f=true∧(s.make n).2.2.node f=n∧(s.make n).2.2.busyN=s.busyN+1:=by
  have hb:s.bad n.kids=false:=by
    unfold Ar.bad
    rw [List.any_eq_false]
    intro k hk'
    have:=hk k hk'
    simp only [bne_iff_ne,ne_eq,Bool.and_eq_true,beq_iff_eq,not_and]
    exact this
  by_cases hf:s.free=0
  · left
    refine ⟨?_,?_⟩
    · unfold Ar.make;rw [if_neg (by omega),hb,if_neg (by simp),if_pos hf]
    · exact usedTo_all _ _ fun m a b=>freeFrom_zero s.used s.size s.size 1 (by omega) hf m a (by omega)
  · right
    obtain ⟨f,hff,f1,f2,fu⟩:=Ar.free_spec hf
    have hW:=h.wq.make n hn
    have hm:s.make n=(s.free,0,{s with node:=upd s.node s.free.toNat n,count:=upd (incAll s.count n.kids) s.free.toNat 1,used:=upd s.used s.free.toNat true,busy:=wrap64 (s.busy+1),made:=wrap64 (s.made+1)}):=by
      unfold Ar.make;rw [if_neg (by omega),hb,if_neg (by simp),if_neg hf]
    rw [hff,Int.toNat_natCast] at hm
    rw [hm] at hW⊢
    have hz:s.count f=0:=h.wq.free f fu
    have hk': ∀k∈n.kids,k≠0→ ∃j:Nat,k=j∧1≤j∧j≤s.size∧s.used j=true∧j≠f:=fun k hk1 hk0=>by
      obtain ⟨j,rfl, -⟩:=Ar.cnt_pos (hk k hk1 hk0)
      obtain ⟨a,b,c⟩:=h.used_of (hk _ hk1 hk0)
      exact ⟨j,rfl,a,b,c,fun e=>by rw [e,fu] at c;cases c⟩
    have hinc: ∀m:Nat,1≤m→incAll s.count n.kids m=s.count m+n.kids.count (m:Int):=incAll_eq _ _ 1024000 (fun k hk1 hk0=>by
      obtain ⟨j,rfl,a,b,c, -⟩:=hk' k hk1 hk0
      have:=h.cnt j a b c
      have:=h.refs_le (j:Int)
      rw [Int.toNat_natCast];omega) (by simp [Nd.kids])
    have hrf: ∀m:Nat,refsTo (upd s.used f true) (upd s.node f n) (m:Int) s.size=s.refs m+n.kids.count (m:Int):=fun m=>by
      have:=refsTo_upd s.used s.node (m:Int) f true n f1 s.size f2
      rw [fu] at this
      simp only [Bool.false_eq_true,if_false,if_true,Nat.add_zero] at this
      exact this
    have hus: ∀m,s.used m=true→m≠f:=fun m hm' e=>by rw [e,fu] at hm';cases hm'
    have hus': ∀m,s.used m=true→upd s.used f true m=true:=fun m hm'=>by rw [upd_ne _ _ _ _ (hus m hm')];exact hm'
    have hhas: ∀x,s.has x=true→Ar.has {s with node:=upd s.node f n,count:=upd (incAll s.count n.kids) f 1,used:=upd s.used f true,busy:=wrap64 (s.busy+1),made:=wrap64 (s.made+1)} x=true:=fun x hx=>by
      obtain ⟨a,b,c⟩:=has_iff.1 hx
      exact has_iff.2 ⟨a,b,hus' _ c⟩
    have hfh:Ar.has {s with node:=upd s.node f n,count:=upd (incAll s.count n.kids) f 1,used:=upd s.used f true,busy:=wrap64 (s.busy+1),made:=wrap64 (s.made+1)} (f:Int)=true:=has_iff.2 ⟨by omega,by show (f:Int)≤(s.size:Int);omega,by show upd s.used f true (Int.toNat (f:Int))=true;rw [Int.toNat_natCast,upd_self]⟩
    have hfk: ∀m,1≤m→m≤s.size→s.used m=true→(f:Int)∉(s.node m).kids:=fun m a b c hmem=>by
      have:=h.kid m a b c f hmem (by omega)
      obtain ⟨-, -,d⟩:=has_iff.1 this
      rw [Int.toNat_natCast,fu] at d;cases d
    refine ⟨f,f1,f2,fu,rfl,rfl,⟨hW,by simp;omega,fun m m1 m2 m3=> ?_,fun m m1 m2 m3 m4=> ?_,fun m m1 m2 m3 k hk1 hk0=> ?_,fun y hy h0=> ?_,?_,?_⟩,⟨rfl,hus',fun m hm'=> ?_⟩,upd_self _ _ _,upd_self _ _ _,?_⟩
    · show upd (incAll s.count n.kids) f 1 m=((refsTo (upd s.used f true) (upd s.node f n) (m:Int) s.size+(List.count (m:Int) ((f:Int)::H)):Nat):Int)
      rw [hrf]
      by_cases e:m=f
      · subst e
        have r0:s.refs (m:Int)=0:=refsTo_zero _ _ _ _ hfk
        have k0:n.kids.count (m:Int)=0:=List.count_eq_zero.2 fun hmem=>by
          obtain ⟨j,e, -, -, -,hj⟩:=hk' _ hmem (by omega)
          omega
        have c0:H.count (m:Int)=0:=List.count_eq_zero.2 fun hmem=>by
          have:=h.held _ hmem (by omega)
          obtain ⟨-, -,d⟩:=has_iff.1 this
          rw [Int.toNat_natCast,fu] at d;cases d
        rw [upd_self,List.count_cons_self,r0,k0,c0];rfl
      · have m3' : s.used m = true := by
          replace m3:upd s.used f true m=true:=m3
          rw [upd_ne _ _ _ _ e] at m3;exact m3
        rw [upd_ne _ _ _ _ e,hinc m m1,h.cnt m m1 m2 m3',List.count_cons_of_ne (by omega)];omega
    · replace m3:upd s.used f true m=true:=m3
      replace m4:upd (incAll s.count n.kids) f 1 m=0:=m4
      by_cases e:m=f
      · rw [e,upd_self] at m4;omega
      · rw [upd_ne _ _ _ _ e] at m3 m4
        rw [hinc m m1] at m4
        have:=h.cnt m m1 m2 m3
        exact h.zero m m1 m2 m3 (by omega)
    · replace m3:upd s.used f true m=true:=m3
      replace hk1:k∈(upd s.node f n m).kids:=hk1
      by_cases e:m=f
      · rw [e,upd_self] at hk1
        obtain ⟨j,rfl,a,b,c, -⟩:=hk' k hk1 hk0
        exact hhas _ (has_iff.2 ⟨by omega,by omega,by simpa using c⟩)
      · rw [upd_ne _ _ _ _ e] at m3 hk1
        exact hhas _ (h.kid m m1 m2 m3 k hk1 hk0)
    · rcases List.mem_cons.1 hy with rfl|hy
      · exact hfh
      · exact hhas _ (h.held y hy h0)
    · obtain ⟨rk,hrk⟩:=h.rank
      refine ⟨fun m=>if m=f then rk n.k0.toNat+rk n.k1.toNat+rk n.k2.toNat+rk n.k3.toNat+1 else rk m,fun m m1 m2 m3 k hk1 hk0=> ?_⟩
      replace m3:upd s.used f true m=true:=m3
      replace hk1:k∈(upd s.node f n m).kids:=hk1
      dsimp only
      by_cases e:m=f
      · rw [e,upd_self] at hk1
        obtain ⟨j,rfl,a,b,c,d⟩:=hk' k hk1 hk0
        rw [Int.toNat_natCast,if_neg d,if_pos e]
        simp only [Nd.kids,List.mem_cons,List.not_mem_nil,or_false] at hk1
        rcases hk1 with q|q|q|q<;>rw [←q,Int.toNat_natCast]<;>omega
      · rw [upd_ne _ _ _ _ e] at m3 hk1
        have hk2:=h.kid m m1 m2 m3 k hk1 hk0
        obtain ⟨-, -,d⟩:=has_iff.1 hk2
        rw [if_neg e,if_neg (hus _ d)]
        exact hrk m m1 m2 m3 k hk1 hk0
    · show wrap64 (s.busy+1)=((usedTo (upd s.used f true) s.size:Nat):Int)
      have:=usedTo_upd s.used f true f1 s.size f2
      have h6:=h.wq.small
      have h7:=usedTo_le s.used s.size
      rw [fu] at this
      rw [h.busy,IntWalk.wrap64_in _ (by unfold Ar.busyN;omega)]
      unfold Ar.busyN;simp at this;omega
    · exact upd_ne _ _ _ _ (hus m hm')
    · have:=usedTo_upd s.used f true f1 s.size f2
      rw [fu] at this
      simp only [Bool.false_eq_true,if_false,if_true,Nat.add_zero] at this
      exact this
end
section
open Go.RowKit
inductive Tr where
  | nil
  | nd (tag a b:Int) (t0 t1 t2 t3:Tr)
def Tr.size:Tr→Nat
  | .nil=>0
  | .nd _ _ _ t0 t1 t2 t3=>t0.size+t1.size+t2.size+t3.size+1
inductive Rep (s:Ar):Int→Tr→Prop where
  | nil:Rep s 0 .nil
  | nd {h tag a b k0 k1 k2 k3:Int} {t0 t1 t2 t3:Tr}:s.has h=true→s.get h=⟨tag,k0,k1,k2,k3,a,b⟩→Rep s k0 t0→Rep s k1 t1→Rep s k2 t2→Rep s k3 t3→Rep s h (.nd tag a b t0 t1 t2 t3)
theorem has_ne {s:Ar} {h:Int} (hh:s.has h=true):h≠0:=by have:=(has_iff.1 hh).1;omega
theorem Rep.get {s : Ar} {h tag a b : Int} {t0 t1 t2 t3 : Tr} (hr : Rep s h (.nd tag a b t0 t1 t2 t3)) :
    ∃k0 k1 k2 k3,s.has h=true∧s.get h=⟨tag,k0,k1,k2,k3,a,b⟩∧Rep s k0 t0∧Rep s k1 t1∧Rep s k2 t2∧Rep s k3 t3:=by
  cases hr with
  | nd h1 h2 r0 r1 r2 r3=>exact ⟨_,_,_,_,h1,h2,r0,r1,r2,r3⟩
theorem Rep.zero {s:Ar} {h:Int} (hr:Rep s h .nil):h=0:=by cases hr;rfl
theorem Rep.ne {s:Ar} {h tag a b:Int} {t0 t1 t2 t3:Tr} (hr:Rep s h (.nd tag a b t0 t1 t2 t3)):h≠0:=by
  obtain ⟨_,_,_,_,h1, -⟩:=hr.get;exact has_ne h1
theorem has_get {s s':Ar} {h:Int} (hs:s'.size=s.size) (hh:s.has h=true) (hu:s'.used h.toNat=true) (hn:s'.node h.toNat=s.node h.toNat):s'.has h=true∧s'.get h=s.get h:=by
  have h1:s'.has h=true:=by
    obtain ⟨a,b,c⟩:=has_iff.1 hh
    exact has_iff.2 ⟨a,by rw [hs];exact b,hu⟩
  refine ⟨h1,?_⟩
  unfold Ar.get
  rw [h1,hh,if_pos rfl,if_pos rfl,hn]
theorem Grow.has {s s':Ar} (hg:Grow s s') {h:Int} (hh:s.has h=true):s'.has h=true∧s'.get h=s.get h:=
  has_get hg.size hh (hg.used _ (has_iff.1 hh).2.2) (hg.node _ (has_iff.1 hh).2.2)
theorem Rep.grow {s s':Ar} (hg:Grow s s') {h:Int} {t:Tr} (hr:Rep s h t):Rep s' h t:=by
  induction hr with
  | nil=>exact .nil
  | nd h1 h2 _ _ _ _ i0 i1 i2 i3=>exact .nd (hg.has h1).1 ((hg.has h1).2.trans h2) i0 i1 i2 i3
theorem refsTo_mono {u u':Nat→Bool} {f f':Nat→Nd} (h: ∀n,u n=true→u' n=true∧f' n=f n) (x:Int): ∀d,refsTo u f x d≤refsTo u' f' x d
  | 0=>Nat.le_refl _
  | d+1=>by
    have:=refsTo_mono h x d
    unfold refsTo
    by_cases hu:u (d+1)=true
    · obtain ⟨a,b⟩:=h (d+1) hu
      rw [if_pos hu,if_pos a,b];omega
    · rw [if_neg hu];omega
theorem Inv.live {s s':Ar} {H H':List Int} (h:Inv s H) (h':Inv s' H') (hg:Grow s s') (hH: ∀x,H.count x≤H'.count x) {x:Int} (hc:s.cnt x≠0):s'.cnt x≠0:=by
  obtain ⟨n,rfl,n1,n2,n3⟩:=Ar.cnt_pos hc
  obtain ⟨-, -,hu⟩:=h.used_of hc
  have e1:=h.cnt n n1 n2 hu
  have e2:=h'.cnt n n1 (by rw [hg.size];exact n2) (hg.used n hu)
  rw [Ar.cnt_nat n1 n2,e1] at hc
  rw [Ar.cnt_nat n1 (by rw [hg.size];exact n2),e2]
  have h3:=refsTo_mono (fun m hm=>⟨hg.used m hm,hg.node m hm⟩) (n:Int) s.size (u:=s.used) (u':=s'.used) (f:=s.node) (f':=s'.node)
  have h4:=hH (n:Int)
  unfold Ar.refs at hc⊢
  rw [hg.size]
  omega
inductive Rc (s:Ar) (H:List Int):Int→Prop where
  | held {h:Int}:h∈H→h≠0→Rc s H h
  | kid {h k:Int}:Rc s H h→k∈(s.get h).kids→k≠0→Rc s H k
theorem get_nat {s:Ar} {h:Int} (hh:s.has h=true):s.get h=s.node h.toNat:=by unfold Ar.get;rw [if_pos hh]
theorem Inv.kid_has {s:Ar} {H:List Int} (h:Inv s H) {x k:Int} (hx:s.has x=true) (hk:k∈(s.get x).kids) (h0:k≠0):s.has k=true∧s.cnt k≠0:=by
  obtain ⟨n,rfl,n1,n2,n3⟩:=has_nat hx
  rw [get_nat hx,Int.toNat_natCast] at hk
  exact ⟨h.kid n n1 n2 n3 k hk h0,h.kid_pos n1 n2 n3 hk h0⟩
theorem Inv.rc {s:Ar} {H:List Int} (h:Inv s H) {x:Int} (hx:Rc s H x):s.has x=true∧s.cnt x≠0:=by
  induction hx with
  | held h1 h2=>exact ⟨h.held _ h1 h2,h.pos h1 h2⟩
  | kid _ h1 h2 ih=>exact h.kid_has ih.1 h1 h2
structure Stay (s s':Ar) (H:List Int):Prop where
  size:s'.size=s.size
  same: ∀h,Rc s H h→s'.has h=true∧s'.get h=s.get h
theorem Stay.refl {s:Ar} {H:List Int} (h:Inv s H):Stay s s H:=⟨rfl,fun _ hx=>⟨(h.rc hx).1,rfl⟩⟩
theorem Grow.stay {s s':Ar} {H:List Int} (hg:Grow s s') (h:Inv s H):Stay s s' H:=⟨hg.size,fun _ hx=>hg.has (h.rc hx).1⟩
theorem Stay.rc {s s':Ar} {H:List Int} (h:Stay s s' H) {x:Int} (hx:Rc s H x):Rc s' H x:=by
  induction hx with
  | held h1 h2=>exact .held h1 h2
  | kid h0 h1 h2 ih=>exact .kid ih (by rw [(h.same _ h0).2];exact h1) h2
theorem Stay.rc' {s s':Ar} {H:List Int} (h:Stay s s' H) {x:Int} (hx:Rc s' H x):Rc s H x:=by
  induction hx with
  | held h1 h2=>exact .held h1 h2
  | kid h0 h1 h2 ih=>exact .kid ih (by rw [←(h.same _ ih).2];exact h1) h2
theorem Stay.trans {a b c:Ar} {H:List Int} (h1:Stay a b H) (h2:Stay b c H):Stay a c H:=
  ⟨h2.size.trans h1.size,fun x hx=>⟨(h2.same x (h1.rc hx)).1,(h2.same x (h1.rc hx)).2.trans (h1.same x hx).2⟩⟩
theorem Rc.mono {s:Ar} {H H':List Int} (h: ∀x∈H,x≠0→x∈H') {x:Int} (hx:Rc s H x):Rc s H' x:=by
  induction hx with
  | held h1 h2=>exact .held (h _ h1 h2) h2
  | kid _ h1 h2 ih=>exact .kid ih h1 h2
theorem Stay.mono {a b:Ar} {H H':List Int} (h1:Stay a b H') (h: ∀x∈H,x≠0→x∈H'):Stay a b H:=⟨h1.size,fun x hx=>h1.same x (hx.mono h)⟩
theorem Rep.stay {s s':Ar} {H:List Int} (hs:Stay s s' H) {h:Int} {t:Tr} (hr:Rep s h t) (hh:h≠0→Rc s H h):Rep s' h t:=by
  induction hr with
  | nil=>exact .nil
  | nd h1 h2 _ _ _ _ i0 i1 i2 i3=>
    have hc:=hh (has_ne h1)
    have hm:=fun k hk h0=>Rc.kid (k:=k) hc (by rw [h2];exact hk) h0
    exact .nd (hs.same _ hc).1 ((hs.same _ hc).2.trans h2) (i0 (hm _ kid_mem.1)) (i1 (hm _ kid_mem.2.1)) (i2 (hm _ kid_mem.2.2.1)) (i3 (hm _ kid_mem.2.2.2))
theorem Rep.held {s s':Ar} {H:List Int} (hs:Stay s s' H) {h:Int} {t:Tr} (hr:Rep s h t) (hh:h∈H):Rep s' h t:=hr.stay hs fun h0=> .held hh h0
theorem Inv.pop {s : Ar} {H : List Int} (h : Inv s H) (hl : H.length ≤ 999990) {x : Nat} {l : List Nat} (hw : s.wait = x :: l) :
    Inv (s.pop x l) ((s.node x).kids++H)∧(s.pop x l).busyN+1=s.busyN∧Stay s (s.pop x l) H:=by
  have hW:=h.wq.pop hw
  obtain ⟨x1,x2,xu,xc⟩:=h.wq.mem x (by rw [hw];simp)
  have hc:=h.cnt x x1 x2 xu
  have hr0:s.refs (x:Int)=0:=by omega
  have hH0:(x:Int)∉H:=fun hm=>by have:=List.count_pos_iff.2 hm;omega
  have hk0: ∀m,1≤m→m≤s.size→s.used m=true→(x:Int)∉(s.node m).kids:=fun m a b c hm=>by
    have:=refsTo_pos s.used s.node (x:Int) m a c hm s.size b
    unfold Ar.refs at hr0;omega
  have hrf: ∀m:Nat,refsTo (upd s.used x false) (upd s.node x Nd.zero) (m:Int) s.size+(s.node x).kids.count (m:Int)=s.refs m:=fun m=>by
    have:=refsTo_upd s.used s.node (m:Int) x false Nd.zero x1 s.size x2
    rw [xu] at this
    simp only [Bool.false_eq_true,if_false,if_true,Nat.add_zero] at this
    exact this
  have hue: ∀m,upd s.used x false m=true→m≠x∧s.used m=true:=fun m hm=>by
    by_cases e:m=x
    · rw [e,upd_self] at hm;cases hm
    · rw [upd_ne _ _ _ _ e] at hm;exact ⟨e,hm⟩
  have hhas: ∀y,s.has y=true→y≠(x:Int)→(s.pop x l).has y=true:=fun y hy hyx=>by
    obtain ⟨a,b,c⟩:=has_iff.1 hy
    exact has_iff.2 ⟨a,b,by show upd s.used x false y.toNat=true;rw [upd_ne _ _ _ _ (by omega)];exact c⟩
  have hb:=usedTo_upd s.used x false x1 s.size x2
  rw [xu] at hb
  simp only [Bool.false_eq_true,if_false,if_true,Nat.add_zero] at hb
  obtain ⟨rk,hrk⟩:=h.rank
  refine ⟨⟨hW,by simp [Nd.kids];omega,fun m m1 m2 m3=> ?_,fun m m1 m2 m3 m4=> ?_,fun m m1 m2 m3 k hk1 hk0'=> ?_,fun y hy h0=> ?_,⟨rk,fun m m1 m2 m3 k hk1 hk0'=> ?_⟩,?_⟩,hb,rfl,fun y hy=> ?_⟩
  · obtain ⟨e,mu⟩:=hue m m3
    show s.count m=((refsTo (upd s.used x false) (upd s.node x Nd.zero) (m:Int) s.size+List.count (m:Int) ((s.node x).kids++H):Nat):Int)
    rw [h.cnt m m1 m2 mu,←hrf m,List.count_append];omega
  · obtain ⟨e,mu⟩:=hue m m3
    have:=h.zero m m1 m2 mu m4
    rw [hw] at this
    exact (List.mem_cons.1 this).resolve_left e
  · obtain ⟨e,mu⟩:=hue m m3
    replace hk1:k∈(upd s.node x Nd.zero m).kids:=hk1
    rw [upd_ne _ _ _ _ e] at hk1
    exact hhas k (h.kid m m1 m2 mu k hk1 hk0') fun q=>hk0 m m1 m2 mu (q▸hk1)
  · rcases List.mem_append.1 hy with hy|hy
    · exact hhas y (h.kid x x1 x2 xu y hy h0) fun q=>hk0 x x1 x2 xu (q▸hy)
    · exact hhas y (h.held y hy h0) fun q=>hH0 (q▸hy)
  · obtain ⟨e,mu⟩:=hue m m3
    replace hk1:k∈(upd s.node x Nd.zero m).kids:=hk1
    rw [upd_ne _ _ _ _ e] at hk1
    exact hrk m m1 m2 mu k hk1 hk0'
  · show wrap64 (s.busy - 1)=((usedTo (upd s.used x false) s.size:Nat):Int)
    have h6:=h.wq.small
    have h7:=usedTo_le s.used s.size
    rw [h.busy,IntWalk.wrap64_in _ (by unfold Ar.busyN;omega)]
    unfold Ar.busyN;omega
  · obtain ⟨y1,y2⟩:=h.rc hy
    have hyx:y≠(x:Int):=fun e=>y2 (by rw [e,Ar.cnt_nat x1 x2,xc])
    have hyn:y.toNat≠x:=by have:=(has_iff.1 y1).1;omega
    exact has_get rfl y1 (by show upd s.used x false y.toNat=true;rw [upd_ne _ _ _ _ hyn];exact (has_iff.1 y1).2.2) (upd_ne _ _ _ _ hyn)
theorem Inv.workL {H : List Int} : ∀ (k : Nat) (s : Ar) (most n : Int), Inv s H → H.length ≤ 999980 → s.busyN < k → 0 ≤ n → n + s.busyN ≤ 1000000000000 →
    ∃r,Ar.workL k s most n=some r∧Inv r.2 H∧Stay s r.2 H∧r.2.busyN≤s.busyN∧(n+s.busyN<most→r.2.wait=[])
  | 0,s,most,n,h,_,hk,_,_=>absurd hk (by omega)
  | k+1,s,most,n,h,hl,hk,h0,hn=>by
    unfold Ar.workL
    by_cases hm:most≤n
    · rw [if_pos hm];exact ⟨_,rfl,h,Stay.refl h,Nat.le_refl _,fun hh=>by omega⟩
    rw [if_neg hm]
    cases hw:s.wait with
    | nil=>exact ⟨_,rfl,h,Stay.refl h,Nat.le_refl _,fun _=>hw⟩
    | cons x l=>
      dsimp only
      obtain ⟨h1,h2,h3⟩:=h.pop (by omega) hw
      have h4:=Inv.dropAll h1
      have h5:=(Grow.dropAll (s.node x).kids (s.pop x l))
      have h6:Stay s ((s.pop x l).dropAll (s.node x).kids) H:=⟨h5.size.trans h3.size,fun y hy=>by
        obtain ⟨a,b⟩:=h3.same y hy
        exact ⟨(h5.has a).1,(h5.has a).2.trans b⟩⟩
      have h7:=busyN_dropAll (s.node x).kids (s.pop x l)
      have hw1:wrap64 (n+1)=n+1:=IntWalk.wrap64_in _ (by omega)
      obtain ⟨r,r1,r2,r3,r4,r5⟩:=Inv.workL k ((s.pop x l).dropAll (s.node x).kids) most (n+1) h4 hl (by omega) (by omega) (by omega)
      rw [hw1]
      exact ⟨r,r1,r2,h6.trans r3,by omega,fun hh=>r5 (by omega)⟩
theorem Inv.work {s : Ar} {H : List Int} (h : Inv s H) (hl : H.length ≤ 999980) (most : Int) :
    ∃r,s.work most=some r∧Inv r.2 H∧Stay s r.2 H∧r.2.busyN≤s.busyN∧(6000<most→r.2.wait=[]):=by
  have h6:=h.wq.small
  have h7:=usedTo_le s.used s.size
  obtain ⟨r,r1,r2,r3,r4,r5⟩:=Inv.workL rounds s most 0 h hl (by unfold rounds Ar.busyN;omega) (by omega) (by unfold Ar.busyN;omega)
  exact ⟨r,r1,r2,r3,r4,fun hh=>r5 (by unfold Ar.busyN;omega)⟩
theorem rk_bound (rk:Nat→Nat): ∀d,∃M,∀n,n≤d→rk n≤M
  | 0=>⟨rk 0,fun n h=>by rw [Nat.le_zero.1 h];exact Nat.le_refl _⟩
  | d+1=>by
    obtain ⟨M,h⟩:=rk_bound rk d
    exact ⟨M+rk (d+1),fun n hn=>by
      by_cases e:n=d+1
      · rw [e];omega
      · have:=h n (by omega);omega⟩
theorem Inv.reached {s:Ar} {H:List Int} (h:Inv s H) (hw:s.wait=[]) {x:Int} (hx:s.has x=true):Rc s H x:=by
  obtain ⟨rk,hrk⟩:=h.rank
  obtain ⟨M,hM⟩:=rk_bound rk s.size
  suffices∀d n:Nat,1≤n→n≤s.size→s.used n=true→M - rk n<d→Rc s H n by
    obtain ⟨n,rfl,n1,n2,n3⟩:=has_nat hx
    exact this (M - rk n+1) n n1 n2 n3 (by omega)
  intro d
  induction d with
  | zero=>intro n _ _ _ hd;omega
  | succ d ih=>
    intro n n1 n2 n3 hd
    have hc:=h.cnt n n1 n2 n3
    by_cases hH:(n:Int)∈H
    · exact .held hH (by omega)
    rw [List.count_eq_zero.2 hH] at hc
    have h0:s.refs n≠0:=fun e=>by
      have:=h.zero n n1 n2 n3 (by omega)
      rw [hw] at this;cases this
    have: ∃m,1≤m∧m≤s.size∧s.used m=true∧(n:Int)∈(s.node m).kids:=by
      refine Classical.byContradiction fun hne=>h0 (refsTo_zero _ _ _ _ fun m a b c hm=>hne ⟨m,a,b,c,hm⟩)
    obtain ⟨m,m1,m2,m3,m4⟩:=this
    have hlt:=hrk m m1 m2 m3 n m4 (by omega)
    rw [Int.toNat_natCast] at hlt
    have:=hM m m2
    have hm:=ih m m1 m2 m3 (by omega)
    have hmh:s.has (m:Int)=true:=has_iff.2 ⟨by omega,by omega,by simpa using m3⟩
    exact .kid hm (by rw [get_nat hmh,Int.toNat_natCast];exact m4) (by omega)
theorem usedTo_sub (used:Nat→Bool): ∀(d:Nat) (L:List Nat),(∀n,1≤n→n≤d→used n=true→n∈L)→usedTo used d≤L.length
  | 0,_,_=>Nat.zero_le _
  | d+1,L,h=>by
    unfold usedTo
    by_cases hu:used (d+1)=true
    · have hm:=h (d+1) (by omega) (by omega) hu
      have:=usedTo_sub used d (L.erase (d+1)) fun n a b c=>(List.mem_erase_of_ne (by omega)).2 (h n a (by omega) c)
      rw [List.length_erase_of_mem hm] at this
      have:0<L.length:=List.length_pos_of_mem hm
      rw [if_pos hu];omega
    · rw [if_neg hu];exact usedTo_sub used d L fun n a b c=>h n a (by omega) c
theorem Rep.list {s:Ar} {h:Int} {t:Tr} (hr:Rep s h t): ∃L:List Nat,L.length≤t.size∧(h≠0→h.toNat∈L)∧ ∀n∈L,∀k∈(s.get (n:Int)).kids,k≠0→k.toNat∈L:=by
  induction hr with
  | nil=>exact ⟨[],Nat.le_refl _,fun h=>absurd rfl h,by simp⟩
  | @nd h tag a b k0 k1 k2 k3 t0 t1 t2 t3 h1 h2 _ _ _ _ i0 i1 i2 i3=>
    obtain ⟨L0,a0,b0,c0⟩:=i0
    obtain ⟨L1,a1,b1,c1⟩:=i1
    obtain ⟨L2,a2,b2,c2⟩:=i2
    obtain ⟨L3,a3,b3,c3⟩:=i3
    have hp:=(has_iff.1 h1).1
    refine ⟨h.toNat::(L0++L1++L2++L3),by simp [Tr.size];omega,fun _=>by simp,fun n hn k hk hk0=> ?_⟩
    simp only [List.mem_cons,List.mem_append] at hn⊢
    rcases hn with rfl|((hn|hn)|hn)|hn
    · rw [show ((h.toNat:Nat):Int)=h by omega,h2] at hk
      simp only [Nd.kids,List.mem_cons,List.not_mem_nil,or_false] at hk
      rcases hk with rfl|rfl|rfl|rfl
      · exact .inr (.inl (.inl (.inl (b0 hk0))))
      · exact .inr (.inl (.inl (.inr (b1 hk0))))
      · exact .inr (.inl (.inr (b2 hk0)))
      · exact .inr (.inr (b3 hk0))
    · exact .inr (.inl (.inl (.inl (c0 n hn k hk hk0))))
    · exact .inr (.inl (.inl (.inr (c1 n hn k hk hk0))))
    · exact .inr (.inl (.inr (c2 n hn k hk hk0)))
    · exact .inr (.inr (c3 n hn k hk hk0))
def Reps (s:Ar):List Int→List Tr→Prop
  | [],[]=>True
  | h::H,t::T=>Rep s h t∧Reps s H T
  | _,_=>False
def sizes (T:List Tr):Nat:=(T.map Tr.size).sum
theorem Reps.list {s:Ar}: ∀{H:List Int} {T:List Tr},Reps s H T→ ∃L:List Nat,L.length≤sizes T∧(∀h∈H,h≠0→h.toNat∈L)∧ ∀n∈L,∀k∈(s.get (n:Int)).kids,k≠0→k.toNat∈L
  | [],[],_=>⟨[],Nat.zero_le _,by simp,by simp⟩
  | h::H,t::T,hr=>by
    obtain ⟨L0,a0,b0,c0⟩:=hr.1.list
    obtain ⟨L1,a1,b1,c1⟩:=Reps.list hr.2
    refine ⟨L0++L1,by simp [sizes] at a1⊢;omega,fun x hx h0=> ?_,fun n hn k hk hk0=> ?_⟩
    · rcases List.mem_cons.1 hx with rfl|hx
      · exact List.mem_append.2 (.inl (b0 h0))
      · exact List.mem_append.2 (.inr (b1 x hx h0))
    · rcases List.mem_append.1 hn with hn|hn
      · exact List.mem_append.2 (.inl (c0 n hn k hk hk0))
      · exact List.mem_append.2 (.inr (c1 n hn k hk hk0))
  | [],_::_,h=>h.elim
  | _::_,[],h=>h.elim
theorem Inv.busy_le {s:Ar} {H:List Int} (h:Inv s H) (hw:s.wait=[]) {T:List Tr} (hr:Reps s H T):s.busyN≤sizes T:=by
  obtain ⟨L,hL,hh,hk⟩:=hr.list
  refine Nat.le_trans (usedTo_sub s.used s.size L fun n n1 n2 n3=> ?_) hL
  have hx:=h.reached hw (x:=(n:Int)) (has_iff.2 ⟨by omega,by omega,by simpa using n3⟩)
  have: ∀x,Rc s H x→x.toNat∈L:=fun x hx=>by
    induction hx with
    | held h1 h2=>exact hh _ h1 h2
    | @kid h' k' hq h1 h2 ih=>
      refine hk _ ih _ ?_ h2
      have:=(has_iff.1 (h.rc hq).1).1
      rw [show ((h'.toNat:Nat):Int)=h' by omega];exact h1
  simpa using this _ hx
theorem Inv.busy_same {s s':Ar} {H:List Int} (h:Inv s H) (hw:s.wait=[]) (h':Inv s' H) (hw':s'.wait=[]) (hs:Stay s s' H):s'.busyN=s.busyN:=by
  unfold Ar.busyN
  rw [hs.size]
  refine usedTo_congr _ _ _ fun n n1 n2=> ?_
  have hx: ∀x:Ar,x.size=s.size→x.used n=x.has (n:Int):=fun x hx=>by
    unfold Ar.has
    rw [decide_eq_true (show (1:Int)≤(n:Int) by omega),decide_eq_true (show (n:Int)≤(x.size:Int) by omega)];simp
  rw [hx s rfl,hx s' hs.size]
  cases hc:s.has (n:Int) with
  | true=>exact (hs.same _ (h.reached hw hc)).1
  | false=>
    cases hc':s'.has (n:Int) with
    | false=>rfl
    | true=>rw [(h.rc (hs.rc' (h'.reached hw' hc'))).1] at hc;cases hc
structure Nw (t t':Tb) (h:Int) (H:List Int) (c:Nat):Prop where
  inv:Inv t'.s (h::H)
  grow:Grow t.s t'.s
  bad:t'.e≠0→h=0
  sticky:t.e≠0→t'.e=t.e
  cost:t'.s.busyN≤t.s.busyN+c
  full:t.e=0→t'.e≠0→t'.e=2∧t.s.size<t.s.busyN+c
theorem Nw.mono {t t':Tb} {h:Int} {H:List Int} {c d:Nat} (hn:Nw t t' h H c) (hcd:c≤d):Nw t t' h H d:=
  ⟨hn.inv,hn.grow,hn.bad,hn.sticky,by have:=hn.cost;omega,fun a b=>⟨(hn.full a b).1,by have:=(hn.full a b).2;omega⟩⟩
theorem Nw.trans {t t1 t2:Tb} {h1 h2:Int} {H1 H2:List Int} {c1 c2:Nat} (a:Nw t t1 h1 H1 c1) (b:Nw t1 t2 h2 H2 c2):Nw t t2 h2 H2 (c1+c2):=by
  refine ⟨b.inv,a.grow.trans b.grow,b.bad,fun h=> ?_,by have:=a.cost;have:=b.cost;omega,fun h0 h2'=> ?_⟩
  · have:=a.sticky h;rw [b.sticky (by rw [this];exact h),this]
  · by_cases h1':t1.e=0
    · have:=b.full h1' h2'
      have:=a.cost
      have:=a.grow.size
      exact ⟨by omega,by omega⟩
    · have:=a.full h0 h1'
      have:=b.sticky h1'
      exact ⟨by omega,by omega⟩
theorem Nw.ok {t t':Tb} {h:Int} {H:List Int} {c:Nat} (hn:Nw t t' h H c) (h':t'.e=0):t.e=0:=by
  by_cases e:t.e=0
  · exact e
  · exact absurd (by rw [←hn.sticky e];exact h') e
theorem Nw.counts {t:Tb} {s':Ar} {h:Int} {H:List Int} (hi:Inv s' (h::H)) (hg:Grow t.s s') (hb:s'.busyN=t.s.busyN) (h0:t.e≠0→h=0):Nw t ⟨s',t.e⟩ h H 0:=
  ⟨hi,hg,h0,fun _=>rfl,by show s'.busyN≤_;omega,fun a b=>absurd a b⟩
theorem nodeD_nw {t : Tb} {n : Nd} {l H : List Int} (hI : Inv t.s (l ++ H)) (hl : l.length ≤ 4) (hH : H.length ≤ 999000) (ht : 1 ≤ n.tag ∧ n.tag ≤ 6) (hn : U64 n.a) (hk : t.e = 0 → ∀ k ∈ n.kids, k ≠ 0 → k ∈ l) :
    Nw t (t.nodeD n l).2 (t.nodeD n l).1 H 1∧((t.nodeD n l).2.e=0→t.e=0∧(t.nodeD n l).2.s.has (t.nodeD n l).1=true∧(t.nodeD n l).2.s.get (t.nodeD n l).1=n):=by
  have hd:=Inv.dropAll hI
  have hz:=hd.zero_cons (by omega)
  unfold Tb.nodeD
  by_cases he:t.e=0
  · rw [if_pos he]
    rcases hI.make (by simp;omega) n ht hn (fun k hk1 hk0=>hI.pos (List.mem_append.2 (.inl (hk he k hk1 hk0))) hk0) with ⟨hm,hf⟩|⟨f,f1,f2,fu,m1,m2,m3,m4,m5,m6,m7⟩
    · rw [hm]
      dsimp only
      exact ⟨⟨hz,Grow.dropAll _ _,fun _=>rfl,fun h=>absurd he h,by rw [busyN_dropAll];omega,fun _ _=>⟨rfl,by omega⟩⟩,fun h=>by cases h⟩
    · have hp:Inv (t.s.make n).2.2 (l++((f:Int)::H)):=m3.perm List.perm_middle.symm
      have hg:=Grow.dropAll l (t.s.make n).2.2
      have hfh:(t.s.make n).2.2.has (f:Int)=true:=has_iff.2 ⟨by omega,by rw [m4.size];omega,by simpa using m5⟩
      rw [m1,m2]
      dsimp only
      refine ⟨⟨Inv.dropAll hp,m4.trans hg,fun h=>absurd rfl h,fun h=>absurd he h,by rw [busyN_dropAll];omega,fun _ h=>absurd rfl h⟩,fun _=>⟨he,(hg.has hfh).1,?_⟩⟩
      rw [(hg.has hfh).2,get_nat hfh,Int.toNat_natCast,m6]
  · rw [if_neg he]
    exact ⟨⟨hz,Grow.dropAll _ _,fun _=>rfl,fun _=>rfl,by show (t.s.dropAll l).busyN≤_;rw [busyN_dropAll];omega,fun h=>absurd h he⟩,fun h=>absurd h he⟩
end
end Go.Proofs.YtmlmnmkhigjaaaaGreat

/- Part 8 of what these laws needs: the walks of the program's functions, and plain facts. -/
import Derived.Test.YtjeofpkhgmefgaaGreatCoreM7
import Derived.Test.YtjeofpkhgmefgaaGreatProg
import Derived.Maps.OwnOps
import Derived.Maps.OwnSet
import Derived.Maps.AppendAt
set_option linter.unusedSimpArgs false
set_option linter.unusedVariables false
set_option linter.unnecessarySimpa false
namespace Go.Proofs.YtjeofpkhgmefgaaGreat
open Go.RowKit Go.Maps
attribute [local go_sem ↓] Go.wp_at_zero Go.wp_at_succ
variable {ap : Value} {s : Ar} {O : Nat → Prop}
theorem keyed_int:Keyed Tryz.prog 3:=int_keyed Tryz.underlying3
theorem zero_int (w:World):(zeroValue 3).run Tryz.prog w= .ok (.int .i64 0) w:=by kernel_rfl
def Cm (w:World) (b n:Nat) (c:Int→Int):Prop:=
  ∃D:DataW Unit,w.ownsMap Tryz.prog 3 (plainElem Tryz.prog 3) b n D∧IsMap D∧ ∀k:Int,D.atKey (.int .i64 k) (.lit (.int .i64 0))= .lit (.int .i64 (c k))
theorem Cm.made (w:World):Cm (w.alloc (.map #[] 0)) w.heap.size 0 fun _=>0:=⟨.map [],World.ownsMap_made _ _ _ _,isMap_empty,fun _=>rfl⟩
theorem Cm.kept {w w':World} {b n:Nat} {c:Int→Int} {B:Nat} (h:Cm w b n c) (hB:B≤w.heap.size) (hb:Below w.heap.size w w'):Cm w' b n c:=by
  obtain ⟨D,h1,h2,h3⟩:=h
  exact ⟨D,h1.kept (row:=none) ⟨hb.os,hb.tape,hb.output,hb.size,fun i hi _=>hb.block i hi⟩ (by simp),h2,h3⟩
theorem Cm.look {w:World} {b n:Nat} {c:Int→Int} (h:Cm w b n c) (k:Int) (hk:(Lit.int .i64 k).wf=true):(Instr.lookup 111 (.map (some b)) (.int .i64 k) false).run Tryz.prog w= .ok (.int .i64 (c k)) w:=by
  obtain ⟨D,h1, -,h3⟩:=h
  obtain ⟨x,hrun,hat, -⟩:=h1.lookup_int keyed_int Tryz.underlying111 Tryz.underlying3 (zero_int w) (keyOf_int_mk Tryz.underlying3 hk)
  rw [h3] at hat
  cases hat
  exact hrun
def incF (c:Int→Int) (k:Int):Int→Int:=fun x=>if x=k then c k+1 else c x
theorem Cm.upd {w : World} {b n : Nat} {c : Int → Int} (h : Cm w b n c) (hn : n < 1000000) (k : Int) (hk : (Lit.int .i64 k).wf = true) (hc : 0 ≤ c k ∧ c k < 1000000) :
    ∃w',(Instr.mapUpdate 111 (.map (some b)) (.int .i64 k) (.int .i64 (c k+1))).run Tryz.prog w= .ok () w'∧Cm w' b (n+1) (incF c k)∧w.grownBy w' (some b):=by
  obtain ⟨D,h1,h2,h3⟩:=h
  have hw:(Lit.int .i64 (c k+1)).wf=true:=by simp [Lit.wf,IntKind.min,IntKind.max,IntKind.bits,IntKind.signed];omega
  obtain ⟨w',r1,r2,r3⟩:=h1.update keyed_int Tryz.underlying111 (by unfold maxLen;omega) (keyOf_int_mk Tryz.underlying3 hk) (plainElem_int Tryz.underlying3 hw)
  refine ⟨w',r1,⟨_,r2,h2.put _ _,fun x=> ?_⟩,r3⟩
  unfold incF
  by_cases e:x=k
  · subst e;rw [if_pos rfl,atKey_put_same h2 (show WideAt.IsKeyLit (Lit.int .i64 x) from trivial)]
  · rw [if_neg e,atKey_put_other (by intro q;cases q;exact e rfl),h3]
theorem kid_at4 (a b c d:Int) (w:World):((Instr.index 86 (.agg #[.int .i64 a, .int .i64 b, .int .i64 c, .int .i64 d]) (.int .i64 0)).run Tryz.prog w= .ok (.int .i64 a) w)∧((Instr.index 86 (.agg #[.int .i64 a, .int .i64 b, .int .i64 c, .int .i64 d]) (.int .i64 1)).run Tryz.prog w= .ok (.int .i64 b) w)∧((Instr.index 86 (.agg #[.int .i64 a, .int .i64 b, .int .i64 c, .int .i64 d]) (.int .i64 2)).run Tryz.prog w= .ok (.int .i64 c) w)∧((Instr.index 86 (.agg #[.int .i64 a, .int .i64 b, .int .i64 c, .int .i64 d]) (.int .i64 3)).run Tryz.prog w= .ok (.int .i64 d) w):=⟨by kernel_rfl,by kernel_rfl,by kernel_rfl,by kernel_rfl⟩
theorem kid_at (n:Nd) {i:Nat} (hi:i<4) (w:World):(Instr.index 86 (.agg #[.int .i64 n.k0, .int .i64 n.k1, .int .i64 n.k2, .int .i64 n.k3]) (.int .i64 (i:Int))).run Tryz.prog w= .ok (.int .i64 (n.kids.getD i 0)) w:=by
  obtain ⟨h0,h1,h2,h3⟩:=kid_at4 n.k0 n.k1 n.k2 n.k3 w
  have h4:i=0∨i=1∨i=2∨i=3:=by omega
  rcases h4 with rfl|rfl|rfl|rfl
  · exact h0
  · exact h1
  · exact h2
  · exact h3
theorem Cm.mono {w:World} {b n m:Nat} {c:Int→Int} (h:Cm w b n c) (hn:n≤m):Cm w b m c:=by
  obtain ⟨D,h1,h2⟩:=h
  exact ⟨D,h1.mono hn,h2⟩
theorem take_count (l:List Int) (i:Nat) (hi:i<l.length) (x:Int):(l.take (i+1)).count x=(l.take i).count x+(if x=l.getD i 0 then 1 else 0):=by
  rw [List.take_succ_eq_append_getElem hi,List.count_append]
  congr 1
  rw [List.getD_eq_getElem?_getD,List.getElem?_eq_getElem hi,Option.getD_some,List.count_singleton]
  by_cases e:x=l[i]
  · subst e;simp
  · rw [if_neg e,if_neg (by simpa using fun h=>e h.symm)]
theorem refsTo_no {used:Nat→Bool} {node:Nat→Nd} {h:Nat} (hu:used (h+1)=false) (x:Int):refsTo used node x (h+1)=refsTo used node x h:=by
  show refsTo used node x h+(if used (h+1) then (node (h+1)).kids.count x else 0)=_
  rw [hu,if_neg (by decide)];rfl
theorem refsTo_yes {used:Nat→Bool} {node:Nat→Nd} {h:Nat} (hu:used (h+1)=true) (x:Int):refsTo used node x (h+1)=refsTo used node x h+(node (h+1)).kids.count x:=by
  show refsTo used node x h+(if used (h+1) then (node (h+1)).kids.count x else 0)=_
  rw [hu,if_pos rfl]
theorem refsTo_nonneg (used:Nat→Bool) (node:Nat→Nd) (k:Int) (d:Nat) (hd:d≤6000):refsTo used node k d≤24000:=by have:=refsTo_le used node k d;omega
theorem Rx.cells {w:World} {b n cap:Nat} {cs:Array Value} {T:TypeId} {f:Nat×Nat} (h:w.heap[b]? =some (.cells cs T f)) (hn:cs.size=n):Rx w 1 (.slice (some ⟨b,0,none⟩) n cap) n cs.toList:=
  ⟨by simp [hn],_,cap,rfl,fun _=>⟨b,rfl,lt_of h,fun j _=>by rw [cells_of h];simp⟩⟩
def HeldAs (L H:List Int):Prop:= ∀k:Int,k≠0→L.count k=H.count k
set_option maxRecDepth 100000 in
set_option maxHeartbeats 4000000 in
theorem counted_calls {H : List Int} (hI : Inv s H) (L : List Int) (hL : HeldAs L H) (hl : L.length ≤ 1000) (v : Value) (w : World) (hA : AP w ap s O) (hv : Rx w 1 v L.length (L.map fun k => .int .i64 k)) :
    Calls Tryz.prog 37 #[ap,v] w fun e w'=>e= .returned (.bool true)∧Below w.heap.size w w':=by
  have hmm:= @run_makeMap Tryz.prog
  have hsz:=hI.wq.small
  have HI:=Lib.hid hI;have HL:=Lib.hid hL;have HA:=Lib.hid hA;have HV:=Lib.hid hv;have Hl:=Lib.hid hl;have HS:=Lib.hid hsz
  obtain ⟨-,A,cap,rfl, -⟩:=hv
  clear hI hL hA hl hsz
  go_enter Tryz.func37,Tryz.ntmps37
  go_wp2_with fail
  refine wp_gen fun V hV=> ?_
  have hBV:Below w.heap.size w V:=by rw [hV];exact below_box _ _
  have hM:Cm V w.heap.size 0 fun _=>0:=by rw [hV];exact Cm.made w
  have HBV:=Lib.hid hBV;have HM0:=Lib.hid hM
  clear hV hBV hM
  go_loopg [6] s.size (fun k c wr=> ∃h:Nat,c= .int .i64 ((h:Int)+1)∧h+k=s.size∧Hid (∃c,Cm wr w.heap.size (4*h) c∧ ∀x,c x=(refsTo s.used s.node x h:Int))∧Hid (Below w.heap.size w wr))
  case atStart=>exact ⟨0,rfl,by omega,Lib.hid ⟨_,HM0.out,fun _=>rfl⟩,HBV⟩
  case round=>
    obtain ⟨h,rfl,hk,HM,HB⟩:=hrel
    have hwr:=HA.out.below HB.out
    by_cases hle:h<s.size
    · obtain ⟨k,rfl⟩: ∃k,gk=k+1:=⟨gk - 1,by omega⟩
      have n1:decide ((h:Int)+1≤(s.size:Int))=true:=by simp;omega
      have e3:wrap64 ((h:Int)+1+1)=(h:Int)+1+1:=IntWalk.wrap64_in _ (by have:=HS.out;omega)
      have HE3:=Lib.hid e3;have Hle:=Lib.hid hle
      clear e3 hle
      go_wp2_with fail
      refine (size_calls _ hwr).mono ?_
      rintro e0 w0 ⟨rfl,rfl⟩
      go_wp2_with fail
      refine (aget_calls _ _ hwr).mono ?_
      rintro e1 W1 ⟨rfl,hb1⟩
      have HB1:=Lib.hid (below_step HB.out hb1)
      obtain ⟨c,hM,hc⟩:=HM.out
      have HM1:=Lib.hid (hM.kept (Nat.zero_le _) hb1)
      have HC:=Lib.hid hc
      clear hM hc HM
      have hnode:s.has ((h:Int)+1)=s.used (h+1):=by
        unfold Ar.has
        rw [show ((h:Int)+1).toNat=h+1 by omega,decide_eq_true (by omega:(1:Int)≤(h:Int)+1),decide_eq_true (by have:=Hle.out;omega:(h:Int)+1≤(s.size:Int)),Bool.true_and,Bool.true_and]
      clear hb1 hwr
      unfold Nd.val
      cases hh:s.has ((h:Int)+1) with
      | false=>
        rw [hh] at hnode
        have HC2:Hid (∀x,c x=(refsTo s.used s.node x (h+1):Int)):=Lib.hid fun x=>by rw [HC.out x,refsTo_no hnode.symm]
        clear hnode HC
        go_wp2_with fail
        have e3:=HE3.out
        go_roundg k
        case measure=>omega
        case rel=>exact ⟨h+1,by first|rfl|(rw [e3];rfl),by omega,Lib.hid ⟨c,(HM1.out.kept (Nat.zero_le _) (below_box _ _)).mono (by omega),HC2.out⟩,Lib.hid (below_step HB1.out (below_box _ _))⟩
      | true=>
        rw [hh] at hnode
        have hnd:=get_nat hh
        rw [show ((h:Int)+1).toNat=h+1 by omega] at hnd
        have hkid: ∀x∈(s.node (h+1)).kids,(Lit.int .i64 x).wf=true:=fun x hx=>by
          have:x=0∨s.has x=true:=by
            by_cases e:x=0
            · exact .inl e
            · exact .inr (HI.out.kid (h+1) (by omega) (by have:=Hle.out;omega) hnode.symm x hx e)
          have hs:=HS.out
          have:0≤x∧x≤6000:=by
            rcases this with e|e
            · omega
            · have:=has_iff.1 e;omega
          simp [Lit.wf,IntKind.min,IntKind.max,IntKind.bits,IntKind.signed];omega
        have HC2:Hid (∀x,(refsTo s.used s.node x (h+1):Int)=c x+(s.node (h+1)).kids.count x):=Lib.hid fun x=>by rw [HC.out x,refsTo_yes hnode.symm];omega
        have HKW:=Lib.hid hkid
        rw [hnd]
        generalize s.node (h+1)=nd at HC2 HKW⊢
        clear hnode hnd hkid hh
        have HC3:Hid (∀x,0≤c x∧c x≤24000):=Lib.hid fun x=>by rw [HC.out x];have:=refsTo_nonneg s.used s.node x h (by have:=HS.out;have:=Hle.out;omega);omega
        clear HC
        go_wp2_with fail
        refine wp_gen fun V1 hV1=> ?_
        have hbv:Below W1.heap.size W1 V1:=by rw [hV1];exact below_box _ _
        have HBV1:=Lib.hid (below_step HB1.out hbv)
        have HMV1:=Lib.hid (HM1.out.kept (Nat.zero_le _) hbv)
        clear hV1 hbv
        go_loopg [31] 4 (fun k2 j wr2=> ∃i:Nat,j= .int .i64 (i:Int)∧i+k2=4∧Hid (∃c2,Cm wr2 w.heap.size (4*h+i) c2∧ ∀x,c2 x=c x+((nd.kids.take i).count x:Int))∧Hid (Below w.heap.size w wr2))
        case atStart=>exact ⟨0,rfl,by omega,Lib.hid ⟨_,HMV1.out,fun x=>by simp⟩,HBV1⟩
        case round=>
          obtain ⟨i,rfl,hk2,HM2,HB2⟩:=hrel
          by_cases hi:i<4
          · obtain ⟨k2,rfl⟩: ∃j,gk=j+1:=⟨gk - 1,by omega⟩
            have n2:decide ((i:Int)<4)=true:=by simp;omega
            obtain ⟨c2,hM2,hc2⟩:=HM2.out
            have hx:=kid_at nd hi wr
            have hmem:nd.kids.getD i 0∈nd.kids:=by rw [List.getD_eq_getElem?_getD,List.getElem?_eq_getElem (by simpa [Nd.kids] using hi)];exact List.getElem_mem _
            have hwf:=HKW.out _ hmem
            have htc:=fun x=>take_count nd.kids i (by simpa [Nd.kids] using hi) x
            generalize nd.kids.getD i 0=y at hx hwf htc
            have hcb:0≤c2 y∧c2 y<1000000:=by rw [hc2 y];have:=HC3.out y;have:=List.count_le_length (a:=y) (l:=nd.kids.take i);rw [List.length_take] at this;omega
            have hlk:=hM2.look y hwf
            obtain ⟨w3,hup,hM3,hg3⟩:=hM2.upd (by have:=HS.out;have:=Hle.out;omega) y hwf hcb
            have e4:wrap64 (c2 y+1)=c2 y+1:=IntWalk.wrap64_in _ (by omega)
            have e5:wrap64 ((i:Int)+1)=(i:Int)+1:=IntWalk.wrap64_in _ (by omega)
            have HM3:Hid (∃c2,Cm w3 w.heap.size (4*h+(i+1)) c2∧ ∀x,c2 x=c x+((nd.kids.take (i+1)).count x:Int)):=Lib.hid ⟨_,hM3,fun x=>by
              unfold incF
              by_cases e:x=y
              · rw [if_pos e,hc2 y,htc x,if_pos e,e];omega
              · rw [if_neg e,hc2 x,htc x,if_neg e];omega⟩
            have HB3:=Lib.hid (HB2.out.grown hg3 HB2.out.size (fun j hj=>by cases hj;exact Nat.le_refl _))
            clear hM2 hc2 HM2 hmem hwf htc hcb hM3 hg3
            go_wp2_with fail
            go_roundg k2
            case measure=>omega
            case rel=>exact ⟨i+1,by first|rfl|(rw [e5];rfl),by omega,HM3,HB3⟩
          · have n2:decide ((i:Int)<4)=false:=by simp;omega
            obtain rfl:i=4:=by omega
            have HM4:Hid (∃c2,Cm wr w.heap.size (4*(h+1)) c2∧ ∀x,c2 x=(refsTo s.used s.node x (h+1):Int)):=Lib.hid (by
              obtain ⟨c2,a,b⟩:=HM2.out
              exact ⟨c2,a,fun x=>by rw [b x,HC2.out x];rfl⟩)
            clear HM2 hk2
            go_wp2_with fail
            have e3:=HE3.out
            go_roundg k
            case measure=>omega
            case rel=>exact ⟨h+1,by first|rfl|(rw [e3];rfl),by omega,HM4,HB2⟩
    · have n1:decide ((h:Int)+1≤(s.size:Int))=false:=by simp;omega
      obtain rfl:h=s.size:=by omega
      have HV1:=Lib.hid (HV.out.below HB.out)
      obtain ⟨c,hM,hc⟩:=HM.out
      have HM1:Hid (∃c,Cm wr w.heap.size (4*s.size) c∧ ∀x,c x=(s.refs x:Int)):=Lib.hid ⟨c,hM,hc⟩
      have HB1:=Lib.hid HB.out
      clear hM hc HM hk HB hwr
      go_wp2_with fail
      refine (size_calls _ (HA.out.below HB1.out)).mono ?_
      rintro e0 w0 ⟨rfl,rfl⟩
      go_wp2_with fail
      refine wp_gen fun V2 hV2=> ?_
      subst hV2
      have HX:=HV1
      obtain ⟨W2,hW2⟩: ∃W2,W2=V2:=⟨_,rfl⟩
      go_loopg [41] L.length (fun k c wr=> ∃i:Nat,c= .int .i64 (i:Int)∧i+k=L.length∧Hid (∃c,Cm wr w.heap.size (4*s.size+i) c∧ ∀x,x≠0→c x=(s.refs x:Int)+((L.take i).count x:Int))∧Hid (Below w.heap.size w wr))
      case atStart=>
        obtain ⟨c,hM,hc⟩:=HM1.out
        exact ⟨0,rfl,by omega,Lib.hid ⟨c,hM,fun x _=>by rw [hc x];simp⟩,HB1⟩
      case round=>
        obtain ⟨i,rfl,hk,HM,HB⟩:=hrel
        by_cases hi:i<L.length
        · obtain ⟨k,rfl⟩: ∃j,gk=j+1:=⟨gk - 1,by omega⟩
          have n1:decide ((i:Int)<(L.length:Int))=true:=by simp;omega
          have n2:(i:Int)<(L.length:Int):=by omega
          have e5:wrap64 ((i:Int)+1)=(i:Int)+1:=IntWalk.wrap64_in _ (by have:=Hl.out;omega)
          have HE5:=Lib.hid e5
          obtain ⟨x,hx⟩: ∃x,L[i]? =some x:=⟨_,List.getElem?_eq_getElem hi⟩
          have hgd:L.getD i 0=x:=by rw [List.getD_eq_getElem?_getD,hx];rfl
          have htc:=fun y=>take_count L i hi y
          rw [hgd] at htc
          obtain ⟨-,A',cap',hv',hcell⟩:=HV.out.below HB.out
          obtain ⟨rfl, -,rfl⟩:=Value.slice.inj hv'
          obtain ⟨g,rfl,hg,hcc⟩:=hcell (by omega)
          have qx:wr.cell? ⟨g,i,none⟩=some (.int .i64 x):=by rw [hcc i (by omega),List.getElem?_map,hx];rfl
          obtain ⟨c,hM,hc⟩:=HM.out
          clear hcc hcell hv' e5 hgd
          by_cases hx0:x=0
          · have n3:(x !=0)=false:=by simpa using hx0
            have HM2:Hid (∃c,Cm wr w.heap.size (4*s.size+(i+1)) c∧ ∀y,y≠0→c y=(s.refs y:Int)+((L.take (i+1)).count y:Int)):=Lib.hid ⟨c,hM.mono (by omega),fun y hy=>by rw [hc y hy,htc y,if_neg (by rw [hx0];exact hy)];omega⟩
            clear hM hc htc hx hx0 HM
            go_wp2_with fail
            have e5:=HE5.out
            go_roundg k
            case measure=>omega
            case rel=>exact ⟨i+1,by first|rfl|(rw [e5];rfl),by omega,HM2,HB⟩
          · have n3:(x !=0)=true:=by simpa using hx0
            have hxL:x∈L:=List.mem_of_getElem? hx
            have hxH:x∈H:=by
              have h1:=HL.out x hx0
              have h2:=List.count_pos_iff.2 hxL
              exact List.count_pos_iff.1 (by omega)
            have hhas:=HI.out.held x hxH hx0
            have hpos:=HI.out.pos hxH hx0
            have hn0:0≤s.cnt x:=by
              obtain ⟨m,e,m1,m2,m3⟩:=Ar.cnt_pos hpos
              rw [←m3,HI.out.cnt m m1 m2 (by have:=(has_iff.1 hhas).2.2;rwa [e,Int.toNat_natCast] at this)]
              exact Int.natCast_nonneg _
            have n4:decide (s.cnt x<1)=false:=by simp;omega
            have hwf:(Lit.int .i64 x).wf=true:=by have:=has_iff.1 hhas;have:=HS.out;simp [Lit.wf,IntKind.min,IntKind.max,IntKind.bits,IntKind.signed];omega
            have hcb:0≤c x∧c x<1000000:=by
              rw [hc x hx0]
              have h1:=HI.out.refs_le x
              have h2:=refsTo_nonneg s.used s.node x s.size HS.out
              have h3:=List.count_le_length (a:=x) (l:=L.take i)
              rw [List.length_take] at h3
              have:=Hl.out
              unfold Ar.refs
              omega
            have hlk:=hM.look x hwf
            obtain ⟨w3,hup,hM3,hg3⟩:=hM.upd (by have:=HS.out;have:=Hl.out;omega) x hwf hcb
            have e4:wrap64 (c x+1)=c x+1:=IntWalk.wrap64_in _ (by omega)
            have HM3:Hid (∃c,Cm w3 w.heap.size (4*s.size+(i+1)) c∧ ∀y,y≠0→c y=(s.refs y:Int)+((L.take (i+1)).count y:Int)):=Lib.hid ⟨_,hM3,fun y hy=>by
              unfold incF
              by_cases e:y=x
              · rw [if_pos e,e,hc x hx0,htc x,if_pos rfl];omega
              · rw [if_neg e,hc y hy,htc y,if_neg e];omega⟩
            have HB3:=Lib.hid (HB.out.grown hg3 HB.out.size (fun j hj=>by cases hj;exact Nat.le_refl _))
            clear hM hc htc hx HM hxL hxH hhas hpos hn0 hwf hcb hM3 hg3 hx0
            go_wp2_with fail
            refine (count_calls x _ (HA.out.below HB3.out)).mono ?_
            rintro e6 w6 ⟨rfl,rfl⟩
            clear hlk hup e4
            go_wp2_with fail
            have e5:=HE5.out
            go_roundg k
            case measure=>omega
            case rel=>exact ⟨i+1,by first|rfl|(rw [e5];rfl),by omega,HM3,HB3⟩
        · have n1:decide ((i:Int)<(L.length:Int))=false:=by simp;omega
          obtain rfl:i=L.length:=by omega
          have HM3:Hid (∃c n,n≤100000∧Cm wr w.heap.size n c∧ ∀y,y≠0→c y=(s.refs y:Int)+(L.count y:Int)):=Lib.hid (by
            obtain ⟨c,a,b⟩:=HM.out
            exact ⟨c,_,by have:=HS.out;have:=Hl.out;omega,a,fun y hy=>by rw [b y hy,List.take_length]⟩)
          have HB3:=Lib.hid HB.out
          clear HM HB hk hi
          go_wp2_with fail
          go_loopg [13] s.size (fun k d wr=> ∃h:Nat,d= .int .i64 ((h:Int)+1)∧h+k=s.size∧Hid (∃c n,n≤100000∧Cm wr w.heap.size n c∧ ∀y,y≠0→c y=(s.refs y:Int)+(L.count y:Int))∧Hid (Below w.heap.size w wr))
          case atStart=>exact ⟨0,rfl,by omega,HM3,HB3⟩
          case round=>
            obtain ⟨h,rfl,hk,HM,HB⟩:=hrel
            have hwr:=HA.out.below HB.out
            by_cases hle:h<s.size
            · obtain ⟨k,rfl⟩: ∃j,gk=j+1:=⟨gk - 1,by omega⟩
              have n1:decide ((h:Int)+1≤(s.size:Int))=true:=by simp;omega
              have e3:wrap64 ((h:Int)+1+1)=(h:Int)+1+1:=IntWalk.wrap64_in _ (by have:=HS.out;omega)
              have HE3:=Lib.hid e3
              have hcnt:s.cnt ((h:Int)+1)=s.count (h+1):=Ar.cnt_nat (n:=h+1) (by omega) (by omega)
              clear e3
              by_cases hc0:0<s.cnt ((h:Int)+1)
              · have hu : s.used (h + 1) = true := by
                  cases hu:s.used (h+1) with
                  | true=>rfl
                  | false=>rw [hcnt,HI.out.wq.free _ hu] at hc0;omega
                obtain ⟨c,n,hn,hM,hc⟩:=HM.out
                have heq:s.cnt ((h:Int)+1)=c ((h:Int)+1):=by
                  rw [hcnt,HI.out.cnt (h+1) (by omega) (by omega) hu,hc _ (by omega),HL.out _ (by omega)]
                  rw [show ((h+1:Nat):Int)=(h:Int)+1 by omega];omega
                have hlk:=hM.look ((h:Int)+1) (by have:=HS.out;simp [Lit.wf,IntKind.min,IntKind.max,IntKind.bits,IntKind.signed];omega)
                have n3:decide (0<s.cnt ((h:Int)+1))=true:=by simpa using hc0
                have n4:(s.cnt ((h:Int)+1) !=c ((h:Int)+1))=false:=by rw [heq];simp
                clear hM hc hcnt heq hc0 hu
                go_wp2_with fail
                refine (size_calls _ hwr).mono ?_
                rintro e0 w0 ⟨rfl,rfl⟩
                go_wp2_with fail
                refine (count_calls _ _ hwr).mono ?_
                rintro e1 w1 ⟨rfl,rfl⟩
                go_wp2_with fail
                have e3:=HE3.out
                go_roundg k
                case measure=>omega
                case rel=>exact ⟨h+1,by first|rfl|(rw [e3];rfl),by omega,HM,HB⟩
              · have n3:decide (0<s.cnt ((h:Int)+1))=false:=by simpa using hc0
                clear hcnt hc0
                go_wp2_with fail
                refine (size_calls _ hwr).mono ?_
                rintro e0 w0 ⟨rfl,rfl⟩
                go_wp2_with fail
                refine (count_calls _ _ hwr).mono ?_
                rintro e1 w1 ⟨rfl,rfl⟩
                go_wp2_with fail
                have e3:=HE3.out
                go_roundg k
                case measure=>omega
                case rel=>exact ⟨h+1,by first|rfl|(rw [e3];rfl),by omega,HM,HB⟩
            · have n1:decide ((h:Int)+1≤(s.size:Int))=false:=by simp;omega
              go_wp2_with fail
              refine (size_calls _ hwr).mono ?_
              rintro e0 w0 ⟨rfl,rfl⟩
              go_wp2_with fail
              go_ret
              exact ⟨rfl,HB.out⟩
end Go.Proofs.YtjeofpkhgmefgaaGreat
namespace Go.Proofs.YtjeofpkhgmefgaaGreat
open Go.RowKit
def docCells (ds:List (Int×List UInt8)):List Value:=ds.flatMap fun d=>[.int .i64 d.1,strOf d.2]
theorem docCells_append (a b:List (Int×List UInt8)):docCells (a++b)=docCells a++docCells b:=by unfold docCells;rw [List.flatMap_append]
theorem docCells_at: ∀{ds:List (Int×List UInt8)} {i:Nat} {d:Int×List UInt8},ds[i]? =some d→(docCells ds)[i*2]? =some (.int .i64 d.1)∧(docCells ds)[i*2+1]? =some (strOf d.2)
  | x::ds,0,d,h=>by
    obtain rfl:x=d:=by simpa using h
    exact ⟨rfl,rfl⟩
  | x::ds,i+1,d,h=>by
    have:=docCells_at (ds:=ds) (i:=i) (d:=d) (by simpa using h)
    have e:docCells (x::ds)= .int .i64 x.1::strOf x.2::docCells ds:=rfl
    rw [e,show (i+1)*2=i*2+1+1 by omega]
    simpa using this
theorem rd2_own {W:World} {base:Nat} {e:TypeId} {v:Value} {ds:List (Int×List UInt8)} (h:W.ownsRow base e 2 v ds.length (docCells ds)):Rd2 W v ds:=by
  rcases h.2 with ⟨rfl,h0⟩|⟨g,cap,cur,rfl,hg,hc,hcap,hm,hs,hx⟩
  · refine ⟨none,0,?_,fun h=>by omega⟩
    rw [h0]
  · refine ⟨_,cap,rfl,fun hn=>⟨_,rfl,lt_of hc,fun i d hd=> ?_⟩⟩
    have hi:=(List.getElem?_eq_some_iff.1 hd).1
    obtain ⟨c1,c2⟩:=docCells_at hd
    refine ⟨by rw [block_of_add];exact lt_of hc,?_,?_⟩
    · rw [add_zero_off,h.cellAt (i*2) (by omega),c1]
    · have:=h.cellAt (i*2+1) (by omega)
      rw [add_zero_off]
      exact this.trans c2
theorem docCells_length: ∀ds:List (Int×List UInt8),(docCells ds).length=ds.length*2
  | []=>rfl
  | d::ds=>by
    have e:docCells (d::ds)= .int .i64 d.1::strOf d.2::docCells ds:=rfl
    rw [e,List.length_cons,List.length_cons,docCells_length ds,List.length_cons];omega
theorem docCells_one (ds:List (Int×List UInt8)): ∀u∈docCells ds,u.oneCell'=true:=fun u hu=>by
  unfold docCells at hu
  obtain ⟨d, -,h⟩:=List.mem_flatMap.1 hu
  rcases List.mem_cons.1 h with rfl|h
  · rfl
  · rw [List.mem_singleton.1 h];rfl
theorem docCells_cell: ∀{ds:List (Int×List UInt8)} {j:Nat} {u:Value},(docCells ds)[j]? =some u→ ∃i d,ds[i]? =some d∧((j=i*2∧u= .int .i64 d.1)∨(j=i*2+1∧u=strOf d.2))
  | [],j,u,h=>by cases h
  | x::ds,0,u,h=>⟨0,x,rfl, .inl ⟨rfl,by have e:docCells (x::ds)= .int .i64 x.1::strOf x.2::docCells ds:=rfl;rw [e] at h;simpa using h.symm⟩⟩
  | x::ds,1,u,h=>⟨0,x,rfl, .inr ⟨rfl,by have e:docCells (x::ds)= .int .i64 x.1::strOf x.2::docCells ds:=rfl;rw [e] at h;simpa using h.symm⟩⟩
  | x::ds,j+2,u,h=>by
    have e:docCells (x::ds)= .int .i64 x.1::strOf x.2::docCells ds:=rfl
    obtain ⟨i,d,h1,h2⟩:=docCells_cell (ds:=ds) (j:=j) (u:=u) (by rw [e] at h;simpa using h)
    refine ⟨i+1,d,by simpa using h1,?_⟩
    rcases h2 with ⟨rfl,h2⟩|⟨rfl,h2⟩
    · exact .inl ⟨by omega,h2⟩
    · exact .inr ⟨by omega,h2⟩
theorem add_add (q:Addr) (a b:Nat):(q.add a).add b=q.add (a+b):=by
  obtain ⟨bb,oo,pp⟩:=q
  unfold Addr.add
  rcases Nat.eq_zero_or_pos a with rfl|h1
  · simp
  · rcases Nat.eq_zero_or_pos b with rfl|h2
    · simp
    · rw [if_neg (by omega),if_neg (by omega),if_neg (by omega)]
      cases pp<;>simp<;>omega
theorem rds_docs {w:World} {A:Option Addr} {cap:Nat} {ds:List (Int×List UInt8)} (h:Rd2 w (.slice A ds.length cap) ds):Rds w A ds.length 2 (docCells ds):=by
  refine ⟨docCells_length ds,fun hn=> ?_⟩
  obtain ⟨A',c,hv,h2⟩:=h
  obtain ⟨rfl, -,rfl⟩:=Value.slice.inj hv
  obtain ⟨ad,rfl,hlt,hc⟩:=h2 hn
  refine ⟨ad,rfl,hlt,fun j u hu=> ?_⟩
  obtain ⟨i,d,hd,q⟩:=docCells_cell hu
  obtain ⟨-,c1,c2⟩:=hc i d hd
  rcases q with ⟨rfl,rfl⟩|⟨rfl,rfl⟩
  · exact c1
  · rw [←add_add];exact c2
structure Keeps (base:Nat) (L:List (Nat×Obj)) (v:Value) (ds:List (Int×List UInt8)):Prop where
  own: ∀W:World,(∀x∈L,W.heap[x.1]? =some x.2)→W.ownsRow base 42 2 v ds.length (docCells ds)
  blk: ∀g,v.ownBlock=some g→ ∃o,(g,o)∈L
theorem Keeps.nil (base:Nat):Keeps base [] (.slice none 0 0) []:=⟨fun _ _=>World.ownsRow_nil _ _ _ _,fun g h=>by cases h⟩
theorem Keeps.row {w0 W:World} {ap:Value} {s:Ar} {L:List (Nat×Obj)} {base:Nat} {v:Value} {ds:List (Int×List UInt8)} (h:Keeps base L v ds) (hS:St w0 W ap s L):W.ownsRow base 42 2 v ds.length (docCells ds):=by
  obtain ⟨O, -, -,hL⟩:=hS.ex
  exact h.own W fun x hx=>(hL x hx).1
theorem St.pushed {w0 W W' : World} {ap : Value} {s : Ar} {L : List (Nat × Obj)} {v : Value} {ds : List (Int × List UInt8)} {d : Int × List UInt8} (hS : St w0 W ap s L) (h : Keeps w0.heap.size L v ds) {g cap : Nat}
    (ho:W'.ownsRow w0.heap.size 42 2 (.slice (some ⟨g,0,none⟩) (ds.length+1) cap) (ds.length+1) (docCells (ds++[d]))) (hb:Below w0.heap.size W W') (hg:W.grownBy W' v.ownBlock) (hat:v.ownBlock=some g∨W.heap.size≤g):
    ∃L',St w0 W' ap s L'∧Keeps w0.heap.size L' (.slice (some ⟨g,0,none⟩) (ds.length+1) cap) (ds++[d]):=by
  obtain ⟨O,hA,hO,hL⟩:=hS.ex
  have ho2:=ho
  rcases ho2.2 with ⟨h0, -⟩|⟨g',cap',cur,hv,hge,hc,h1,h2,h3,h4⟩
  · cases h0
  obtain ⟨e1, -,rfl⟩:=Value.slice.inj hv
  cases e1
  have hgo: ¬O g:=by
    rcases hat with e|e
    · obtain ⟨o,hm⟩:=h.blk g e
      exact (hL _ hm).2
    · exact hA.new e
  refine ⟨[(g, .cells cur 42 (0,0))],⟨⟨O,hA.same hg.size fun x hx=>hg.block x (hA.lt hx) fun e=> ?_,hO,fun x hx=> ?_⟩,hS.bel.trans hb⟩,⟨fun W2 hW2=> ?_,fun k hk=> ?_⟩⟩
  · obtain ⟨o,hm⟩:=h.blk x e.symm
    exact (hL _ hm).2 hx
  · obtain rfl:x=(g, .cells cur 42 (0,0)):=by simpa using hx
    exact ⟨hc,hgo⟩
  · have hk:=hW2 (g, .cells cur 42 (0,0)) (by simp)
    rw [List.length_append]
    exact ⟨ho.1, .inr ⟨g,cap,cur,rfl,hge,hk,h1,h2,h3,h4⟩⟩
  · simp [Value.ownBlock] at hk
    subst hk
    exact ⟨.cells cur 42 (0,0),by simp⟩
end Go.Proofs.YtjeofpkhgmefgaaGreat
namespace Go.Proofs.YtjeofpkhgmefgaaGreat
open Go.RowKit
variable {s : Ar} {H : List Int} {h : Int} {ds : Docs} {rate : Int}
def rowAt (ds:Docs) (d a:Nat):Nat:=below (txt ds) (d,a) (all (txt ds))
theorem row_place {i:Nat} {r:Nat×Nat} (hR:Right ds) (hi:(refSorted (txt ds))[i]? =some r):rowAt ds r.1 r.2=i:=by
  rw [right_all hR] at hi
  exact srt_idx (all_srt _) hi
theorem row_there {d a:Nat} {t:List UInt8} (hR:Right ds) (ht:(txt ds)[d]? =some t) (ha:a≤t.length):(refSorted (txt ds))[rowAt ds d a]? =some (d,a):=by
  rw [right_all hR]
  exact srt_at (all_srt _) (all_mem ht ha)
theorem row_lt {d a:Nat} {t:List UInt8} (hR:Right ds) (ht:(txt ds)[d]? =some t) (ha:a≤t.length):rowAt ds d a<(refSorted (txt ds)).length:=
  (List.getElem?_eq_some_iff.1 (row_there hR ht ha)).1
theorem vnext_step (hI:Inv s H) (hv:VR s h ds rate) (hR:Right ds) {d a:Nat} {t:List UInt8} (ht:(txt ds)[d]? =some t) (ha:a<t.length):vNext s h ((rowAt ds d (a+1):Nat):Int)=some (((rowAt ds d a:Nat):Int),true):=by
  rw [hv.next hI (by have:=hR.len;omega)]
  exact congrArg some (next_at hR ht ha)
theorem vnext_stop (hI:Inv s H) (hv:VR s h ds rate) (hR:Right ds) {d:Nat} {t:List UInt8} (ht:(txt ds)[d]? =some t):vNext s h ((rowAt ds d 0:Nat):Int)=some (0,false):=by
  rw [hv.next hI (by have:=hR.len;omega)]
  exact congrArg some (next_end hR ht)
theorem vnext_over (hI:Inv s H) (hv:VR s h ds rate) (hR:Right ds):vNext s h (((refSorted (txt ds)).length:Nat):Int)=some (0,false):=by
  rw [hv.next hI (by have:=hR.len;omega)]
  unfold nextL
  rw [if_pos]
  right
  rw [rowW,List.length_map,rowsM_length]
  omega
end Go.Proofs.YtjeofpkhgmefgaaGreat
namespace Go.Proofs.YtjeofpkhgmefgaaGreat
open Go.RowKit
variable {s : Ar} {H : List Int} {h : Int} {ds : Docs} {rate : Int}
theorem filter_cnt {α:Type} (p:α→Bool): ∀(l:List α) (i:Nat) (r:α),l[i]? =some r→p r=true→(l.filter p)[(l.take i).countP p]? =some r
  | [],i,r,h,_=>by simp at h
  | x::l,0,r,h,hp=>by
    obtain rfl:x=r:=by simpa using h
    simp [List.filter_cons,hp]
  | x::l,i+1,r,h,hp=>by
    have ih:=filter_cnt p l i r (by simpa using h) hp
    rw [List.take_succ_cons,List.countP_cons,List.filter_cons]
    by_cases hx:p x=true
    · rw [if_pos hx,if_pos hx,List.getElem?_cons_succ];exact ih
    · rw [if_neg hx,if_neg hx];exact ih
theorem marks_list:rowM rate (rowsM ds)=(refSorted (txt ds)).map (mkR rate):=(marksM_eq rate ds).symm
theorem spots_list:rowS rate (rowsM ds)=((refSorted (txt ds)).filter (mkR rate)).map (spR ds):=(spotsM_eq rate ds).symm
theorem marks_get (hI:Inv s H) (hv:VR s h ds rate) (hR:Right ds) {i:Nat} {r:Nat×Nat} (hi:(refSorted (txt ds))[i]? =some r):bGet s (vOf s h).marks (i:Int)=some (mkR rate r,true):=by
  have hb:=(hv.parts hI (by have:=hR.len;omega)).2.1
  rw [marks_list] at hb
  have hl:=(List.getElem?_eq_some_iff.1 hi).1
  rw [hb.get hI,if_neg (by rw [List.length_map];omega),Int.toNat_natCast]
  simp [List.getD,hi]
theorem marks_rank (hI:Inv s H) (hv:VR s h ds rate) (hR:Right ds) {i:Nat} (hi:i≤(refSorted (txt ds)).length):bRank s (vOf s h).marks (i:Int)=some ((((refSorted (txt ds)).take i).countP (mkR rate):Nat):Int):=by
  have hb:=(hv.parts hI (by have:=hR.len;omega)).2.1
  rw [marks_list] at hb
  rw [hb.rank hI _ (by omega) (by rw [List.length_map];omega),Int.toNat_natCast,←List.map_take,List.count,List.countP_map]
  congr 3
  funext x
  simp
theorem spots_get (hI:Inv s H) (hv:VR s h ds rate) (hR:Right ds) {i:Nat} {r:Nat×Nat} (hi:(refSorted (txt ds))[i]? =some r) (hm:mkR rate r=true):lGet s (vOf s h).spots ((((refSorted (txt ds)).take i).countP (mkR rate):Nat):Int)=some (spR ds r,true):=by
  have hb:=(hv.parts hI (by have:=hR.len;omega)).2.2.1
  rw [spots_list] at hb
  have hat:=filter_cnt (mkR rate) _ _ _ hi hm
  have hl:=(List.getElem?_eq_some_iff.1 hat).1
  rw [hb.get hI,if_neg (by rw [List.length_map];omega),Int.toNat_natCast]
  simp [List.getD,hat]
theorem spots_len (hI:Inv s H) (hv:VR s h ds rate) (hR:Right ds):lLen s (vOf s h).spots=(((refSorted (txt ds)).countP (mkR rate):Nat):Int):=by
  have hb:=(hv.parts hI (by have:=hR.len;omega)).2.2.1
  rw [spots_list] at hb
  rw [hb.len hI,List.length_map,List.countP_eq_length_filter]
theorem table_len (hI:Inv s H) (hv:VR s h ds rate) (hR:Right ds):lLen s (vOf s h).table=(ds.length:Int):=by
  rw [(hv.parts hI (by have:=hR.len;omega)).2.2.2.1.len hI];unfold docsM;simp
theorem vr_is (hI:Inv s H) (hv:VR s h ds rate) (hR:Right ds):vIs s h=true:=(hv.parts hI (by have:=hR.len;omega)).2.2.2.2
theorem marks_next {R:List (Nat×Nat)} {i:Nat} {r:Nat×Nat} (hi:R[i]? =some r):(R.take (i+1)).countP (mkR rate)=(R.take i).countP (mkR rate)+(if mkR rate r then 1 else 0):=by
  obtain ⟨h1,h2⟩:=List.getElem?_eq_some_iff.1 hi
  rw [List.take_succ_eq_append_getElem h1,List.countP_append,h2]
  simp [List.countP_cons]
end Go.Proofs.YtjeofpkhgmefgaaGreat
namespace Go.Proofs.YtjeofpkhgmefgaaGreat
open Go.RowKit
variable {s : Ar} {H : List Int} {h : Int} {ds m : Docs} {rate other : Int}
def alikeD (rate other:Int) (ds m:Docs):Bool:=
  refRight (txt m)&&(docsM ds==docsM m&&(symsM (txt ds)==symsM (txt m)&&(marksM rate (txt ds)==marksM other (txt m)&&spotsM rate ds==spotsM other m)))
theorem VR.check (hI:Inv s H) (hv:VR s h ds rate) (hR:Right ds) (m:Docs) (other:Int):vCheck s h other m=some (decide (1≤other∧other≤16)&&alikeD rate other ds m):=by
  have hl:=hR.len
  obtain ⟨pw,pm,ps,pt,hi⟩:=hv.parts hI (by omega)
  have hn:=rowsM_small ds
  have hs:=rowS_length rate (rowsM ds)
  unfold vCheck alikeD
  by_cases hr:1≤other∧other≤16
  case neg=>rw [if_neg (fun q=>hr q.2),decide_eq_false hr];rfl
  rw [if_pos ⟨hi,hr⟩,decide_eq_true hr,Bool.true_and]
  by_cases hm:refRight (txt m)=true
  case neg=>rw [if_neg hm,Bool.eq_false_iff.2 hm];rfl
  rw [if_pos hm,hm,Bool.true_and,pt.all hI,Option.bind_some,if_pos (by simp [docsM];omega)]
  by_cases h1:(docsM ds==docsM m)=true
  case neg=>rw [if_neg h1,Bool.eq_false_iff.2 h1];rfl
  rw [if_pos h1,h1,Bool.true_and,pw.all hI,Option.bind_some,if_pos (by simp [rowW];omega),←symsM_eq]
  by_cases h2:(symsM (txt ds)==symsM (txt m))=true
  case neg=>rw [if_neg h2,Bool.eq_false_iff.2 h2];rfl
  rw [if_pos h2,h2,Bool.true_and,pm.all hI,Option.bind_some,if_pos (by simp [rowM];omega),←marksM_eq]
  by_cases h3:(marksM rate (txt ds)==marksM other (txt m))=true
  case neg=>rw [if_neg h3,Bool.eq_false_iff.2 h3];rfl
  rw [if_pos h3,h3,Bool.true_and,ps.all hI,Option.bind_some,if_pos (by omega),←spotsM_eq]
theorem alikeD_self (hR:refRight (txt ds)=true):alikeD rate rate ds ds=true:=by unfold alikeD;simp [hR]
theorem VR.check_own (hI:Inv s H) (hv:VR s h ds rate) (hR:Right ds) (h1:1≤rate) (h2:rate≤16):vCheck s h rate ds=some true:=by
  rw [hv.check hI hR,alikeD_self hR.right,decide_eq_true ⟨h1,h2⟩];rfl
theorem docsM_ids (h:docsM ds=docsM m):ds.map (·.1)=m.map (·.1)∧ds.length=m.length∧(txt ds).map (·.length)=(txt m).map (·.length):=by
  have h1:=congrArg (List.map (·.1)) h
  have h2:=congrArg (List.map (·.2)) h
  unfold docsM at h1 h2
  rw [List.map_map,List.map_map] at h1 h2
  refine ⟨h1,by have:=congrArg List.length h1;simpa using this,?_⟩
  have h3:=congrArg (List.map Int.toNat) h2
  rw [List.map_map,List.map_map] at h3
  rw [List.map_map,List.map_map]
  exact h3
theorem inj_at (hR : Right ds) (hM : Right m) (hw : rowW (rowsM ds) = rowW (rowsM m)) {d : Nat} {t u : List UInt8} (ht : (txt ds)[d]? = some t) (hu : (txt m)[d]? = some u) (hl : t.length = u.length) :
    ∀j,j≤t.length→below (txt ds) (d,t.length - j) (all (txt ds))=below (txt m) (d,t.length - j) (all (txt m))∧t.drop (t.length - j)=u.drop (t.length - j)
  | 0,_=>by
    rw [Nat.sub_zero,end_all ht]
    refine ⟨?_,by rw [List.drop_length];rw [hl,List.drop_length]⟩
    rw [hl,end_all hu]
  | j+1,hj=>by
    obtain ⟨i1,i2⟩:=inj_at hR hM hw ht hu hl j (by omega)
    obtain ⟨a,ha⟩: ∃a,t.length - (j+1)=a:=⟨_,rfl⟩
    have ha1:t.length - j=a+1:=by omega
    rw [ha1] at i1 i2
    rw [ha]
    have n1:=next_at hR ht (show a<t.length by omega)
    have n2:=next_at hM hu (show a<u.length by omega)
    rw [hw,i1,n2] at n1
    obtain ⟨x,hx⟩:=at_some (show a<t.length by omega)
    obtain ⟨y,hy⟩:=at_some (show a<u.length by omega)
    have q1:(rowW (rowsM ds))[below (txt ds) (d,a+1) (all (txt ds))]? =some ((x.toNat:Int)+1):=by
      rw [rowW_all hR,List.getElem?_map,srt_at (all_srt _) (all_mem ht (by omega)),Option.map_some,sym_succ ht hx]
    have q2:(rowW (rowsM m))[below (txt m) (d,a+1) (all (txt m))]? =some ((y.toNat:Int)+1):=by
      rw [rowW_all hM,List.getElem?_map,srt_at (all_srt _) (all_mem hu (by omega)),Option.map_some,sym_succ hu hy]
    rw [hw,i1,q2] at q1
    have hxy:x=y:=by
      have:=Option.some.inj q1
      exact UInt8.toNat.inj (by omega)
    refine ⟨by have:=(Prod.mk.inj n1).1;omega,?_⟩
    rw [drop_at hx,drop_at hy,i2,hxy]
theorem right_of (hR:Right ds) (hm:refRight (txt m)=true) (hd:docsM ds=docsM m):Right m:=by
  obtain ⟨h1,h2, -⟩:=docsM_ids hd
  refine ⟨hm,fun d hdm=> ?_,by rw [←h1];exact hR.nodup⟩
  have:d.1∈ds.map (·.1):=by rw [h1];exact List.mem_map.2 ⟨d,hdm,rfl⟩
  obtain ⟨e,he,hed⟩:=List.mem_map.1 this
  rw [←hed];exact hR.id e he
theorem docs_inj (hR:Right ds) (hm:refRight (txt m)=true) (hd:docsM ds=docsM m) (hs:symsM (txt ds)=symsM (txt m)):ds=m:=by
  have hM:=right_of hR hm hd
  obtain ⟨h1,h2,h3⟩:=docsM_ids hd
  rw [symsM_eq,symsM_eq] at hs
  refine List.ext_getElem h2 fun i hi hj=> ?_
  have e1:ds[i].1=m[i].1:=by
    have:=congrArg (fun l=>l[i]?) h1
    simp only [List.getElem?_map,List.getElem?_eq_getElem hi,List.getElem?_eq_getElem hj,Option.map_some] at this
    exact Option.some.inj this
  have ht:(txt ds)[i]? =some ds[i].2:=by rw [List.getElem?_map,List.getElem?_eq_getElem hi];rfl
  have hu:(txt m)[i]? =some m[i].2:=by rw [List.getElem?_map,List.getElem?_eq_getElem hj];rfl
  have hl:ds[i].2.length=m[i].2.length:=by
    have h4:((txt ds).map (·.length))[i]? =((txt m).map (·.length))[i]? :=by rw [h3]
    rw [List.getElem?_eq_getElem (by simpa using hi),List.getElem?_eq_getElem (by simpa using hj)] at h4
    simpa using h4
  have e2:=(inj_at hR hM hs ht hu hl ds[i].2.length (Nat.le_refl _)).2
  rw [Nat.sub_self,List.drop_zero,List.drop_zero] at e2
  exact Prod.ext e1 e2
theorem alike_same (hR:Right ds) (h:alikeD rate other ds m=true):ds=m:=by
  unfold alikeD at h
  simp only [Bool.and_eq_true,beq_iff_eq] at h
  exact docs_inj hR h.1 h.2.1 h.2.2.1
theorem VR.check_other (hI:Inv s H) (hv:VR s h ds rate) (hR:Right ds) (h1:1≤rate) (h2:rate≤16) (m:Docs):vCheck s h rate m=some (decide (ds=m)):=by
  rw [hv.check hI hR,decide_eq_true ⟨h1,h2⟩,Bool.true_and]
  by_cases e:ds=m
  · subst e;rw [alikeD_self hR.right];simp
  · rw [decide_eq_false e]
    cases h:alikeD rate rate ds m with
    | false=>rfl
    | true=>exact absurd (alike_same hR h) e
def sameMarks (rate other:Int) (ds:Docs):Bool:=ds.all fun d=>(List.range (d.2.length+1)).all fun a=>decide ((a:Int) % rate=0)==decide ((a:Int) % other=0)
theorem sameMarks_row (hR:Right ds):sameMarks rate other ds=true↔ ∀r∈refSorted (txt ds),mkR rate r=mkR other r:=by
  rw [right_all hR]
  unfold sameMarks
  simp only [List.all_eq_true,List.mem_range,beq_iff_eq]
  constructor
  · intro h r hr
    obtain ⟨t,ht,ha⟩:=all_in hr
    rw [List.getElem?_map] at ht
    obtain ⟨d,hd,rfl⟩:=Option.map_eq_some_iff.1 ht
    exact h d (List.mem_of_getElem? hd) r.2 (by omega)
  · intro h d hd a ha
    obtain ⟨k,hk⟩:=List.getElem?_of_mem hd
    exact h (k,a) (all_mem (ts:=txt ds) (d:=k) (a:=a) (t:=d.2) (by rw [List.getElem?_map,hk];rfl) (by omega))
theorem map_congr_iff {α β:Type} {f g:α→β}: ∀{l:List α},l.map f=l.map g↔ ∀x∈l,f x=g x
  | []=>by simp
  | x::l=>by
    rw [List.map_cons,List.map_cons,List.cons.injEq,map_congr_iff (l:=l)];simp
theorem VR.check_rate (hI:Inv s H) (hv:VR s h ds rate) (hR:Right ds) (other:Int):vCheck s h other ds=some (decide (1≤other∧other≤16)&&sameMarks rate other ds):=by
  rw [hv.check hI hR]
  congr 1
  unfold alikeD
  rw [hR.right,beq_self_eq_true,beq_self_eq_true,Bool.true_and,Bool.true_and,Bool.true_and]
  congr 1
  by_cases e:sameMarks rate other ds=true
  · have h2:=(sameMarks_row hR).1 e
    have h3:marksM rate (txt ds)=marksM other (txt ds):=map_congr_iff.2 h2
    have h4:spotsM rate ds=spotsM other ds:=by unfold spotsM;rw [List.filter_congr h2]
    rw [h3,h4,e,beq_self_eq_true,beq_self_eq_true];rfl
  · have h2: ¬marksM rate (txt ds)=marksM other (txt ds):=fun h=>e ((sameMarks_row hR).2 (map_congr_iff.1 h))
    rw [beq_eq_false_iff_ne.2 h2,Bool.eq_false_iff.2 e];rfl
end Go.Proofs.YtjeofpkhgmefgaaGreat
namespace Go.Proofs.YtjeofpkhgmefgaaGreat
open Go.RowKit
def inP (D a:Nat) (r:Nat×Nat):Bool:=decide (r.1<D)||(r.1==D&&decide (a≤r.2))
def part (ts:List (List UInt8)) (D a:Nat):List (Nat×Nat):=(all ts).filter (inP D a)
section
variable {ts : List (List UInt8)} {D : Nat} {t : List UInt8}
theorem part_srt (a:Nat):Srt ts (part ts D a):=(all_srt ts).filter _
theorem docs_lt: ∀{n:Nat} {r:Nat×Nat},r∈docs ts n→r.1<n
  | 0,r,h=>by simp [docs] at h
  | n+1,r,h=>by
    rw [docs_succ] at h
    rcases List.mem_append.1 h with h|h
    · have:=docs_lt h;omega
    · unfold rowsOf at h
      obtain ⟨b, -,rfl⟩:=List.mem_map.1 h
      dsimp only;omega
theorem part_perm (ht:ts[D]? =some t) (hD:ts.length=D+1) {a:Nat} (ha:a≤t.length+1):(part ts D a).Perm (docs ts D++(List.range' a (t.length+1 - a)).map fun b=>(D,b)):=by
  unfold part
  refine ((all_docs ts).filter _).trans ?_
  rw [hD,docs_succ,List.filter_append,rowsOf_range,getD_at ht]
  have h1:(docs ts D).filter (inP D a)=docs ts D:=List.filter_eq_self.2 fun r hr=>by
    unfold inP;rw [decide_eq_true (docs_lt hr)];rfl
  have h2:((List.range' 0 (t.length+1)).map fun b=>(D,b)).filter (inP D a)=(List.range' a (t.length+1 - a)).map fun b=>(D,b):=by
    have e:List.range' 0 (t.length+1)=List.range' 0 a++List.range' a (t.length+1 - a):=by
      have:=List.range'_append (s:=0) (m:=a) (n:=t.length+1 - a) (step:=1)
      rw [show a+(t.length+1 - a)=t.length+1 by omega] at this
      rw [←this];simp
    rw [e,List.map_append,List.filter_append]
    have e1:((List.range' 0 a).map fun b=>(D,b)).filter (inP D a)=[]:=List.filter_eq_nil_iff.2 fun r hr=>by
      obtain ⟨b,hb,rfl⟩:=List.mem_map.1 hr
      have:=List.mem_range'_1.1 hb
      unfold inP;simp;omega
    have e2:((List.range' a (t.length+1 - a)).map fun b=>(D,b)).filter (inP D a)=(List.range' a (t.length+1 - a)).map fun b=>(D,b):=List.filter_eq_self.2 fun r hr=>by
      obtain ⟨b,hb,rfl⟩:=List.mem_map.1 hr
      have:=List.mem_range'_1.1 hb
      unfold inP;simp;omega
    rw [e1,e2,List.nil_append]
  rw [h1,h2]
theorem part_zero (hD:ts.length=D+1):part ts D 0=all ts:=List.filter_eq_self.2 fun r hr=>by
  have h:=(all_docs ts).mem_iff.1 hr
  have:=docs_lt h
  unfold inP;simp;omega
theorem part_step (ht:ts[D]? =some t) {a:Nat} (ha:a≤t.length):part ts D a=insA (part ts D (a+1)) (below ts (D,a) (part ts D (a+1))) (D,a):=by
  refine srt_insert (all_srt ts) (fun x hx=>all_in hx) (all_mem ht ha) ?_ fun x hx=> ?_
  · unfold inP;simp
  · unfold inP
    obtain ⟨x1,x2⟩:=x
    by_cases h1:x1<D
    · simp [h1]
    · by_cases h2:x1=D
      · subst h2
        rw [decide_eq_false h1]
        simp only [beq_self_eq_true,Bool.true_and,Bool.false_or]
        by_cases h3:x2=a
        · subst h3;simp
        · have:((x1,x2)==(x1,a))=false:=by simp [h3]
          rw [this,Bool.or_false]
          exact decide_eq_decide.2 (by omega)
      · have:((x1,x2)==(D,a))=false:=by simp [h2]
        rw [this,Bool.or_false]
        have e:(x1==D)=false:=by simpa using h2
        rw [e];rfl
theorem part_end (ht:ts[D]? =some t) (hD:ts.length=D+1):below ts (D,t.length) (part ts D (t.length+1))=D:=by
  unfold below
  rw [(part_perm ht hD (Nat.le_refl _)).countP_eq,Nat.sub_self,List.range'_zero,List.map_nil,List.append_nil,end_docs ht D (by omega)]
  omega
theorem part_next (ht : ts[D]? = some t) (hD : ts.length = D + 1) {a : Nat} (ha : a < t.length) :
    below ts (D,a) (part ts D (a+1))=((part ts D (a+2)).map (symOf ts)).countP (fun y=>decide (y<symOf ts (D,a+1)))+1+(((part ts D (a+2)).map (symOf ts)).take (below ts (D,a+1) (part ts D (a+2)))).count (symOf ts (D,a+1)):=by
  rw [bwt_rank_at (part_srt (a+2))]
  have hq:=Q_split (ts:=ts) D a (part ts D (a+2))
  have h1:(part ts D (a+1)).countP (fun x=>refLess ts x (D,a))=1+(part ts D (a+2)).countP (Q ts D a):=by
    rw [(part_perm ht hD (show a+1≤t.length+1 by omega)).countP_eq,(part_perm ht hD (show a+2≤t.length+1 by omega)).countP_eq,List.countP_append,List.countP_append,lf_docs ht ha D (by omega)]
    have:=doc_part ht ht ha (t.length - (a+1)) (a+1) (by omega)
    rw [show t.length - (a+1)+1=t.length+1 - (a+1) by omega] at this
    rw [this,show t.length+1 - (a+2)=t.length - (a+1) by omega,show a+1+1=a+2 from rfl]
    omega
  unfold below at h1⊢
  rw [h1,hq]
  omega
end
theorem getD_app {ts us:List (List UInt8)} {i:Nat} (h:i<ts.length):(ts++us).getD i []=ts.getD i []:=by
  rw [List.getD_eq_getElem?_getD,List.getD_eq_getElem?_getD,List.getElem?_append_left h]
theorem rl_app {ts us:List (List UInt8)} {x y:Nat×Nat} (hx:x.1<ts.length) (hy:y.1<ts.length):refLess (ts++us) x y=refLess ts x y:=by
  unfold refLess
  rw [getD_app hx,getD_app hy]
theorem part_old (ts:List (List UInt8)) (t:List UInt8):part (ts++[t]) ts.length (t.length+1)=all ts:=by
  have ht:(ts++[t])[ts.length]? =some t:=by simp
  have hp:=part_perm (ts:=ts++[t]) (D:=ts.length) ht (by simp) (Nat.le_refl _)
  rw [Nat.sub_self,List.range'_zero,List.map_nil,List.append_nil] at hp
  have hdocs: ∀n,n≤ts.length→docs (ts++[t]) n=docs ts n:=fun n=>by
    induction n with
    | zero=>intro _;rfl
    | succ n ih=>
      intro hn
      rw [docs_succ,docs_succ,ih (by omega)]
      unfold rowsOf
      rw [getD_app (by omega)]
  rw [hdocs _ (Nat.le_refl _)] at hp
  have hp2:=hp.trans (all_docs ts).symm
  refine srt_unique (ts:=ts++[t]) (part_srt _) ?_ hp2
  have hin: ∀x∈all ts,x.1<ts.length:=fun x hx=>docs_lt ((all_docs ts).mem_iff.1 hx)
  exact (all_srt ts).imp_of_mem fun {a b} ha hb h=>by rw [rl_app (hin a ha) (hin b hb)];exact h
end Go.Proofs.YtjeofpkhgmefgaaGreat
namespace Go.Proofs.YtjeofpkhgmefgaaGreat
open Go.RowKit
def rowX (ds:Docs) (r:Nat×Nat):Int×Int×Int:=((ds.getD r.1 (0,[])).1,(r.2:Int),symOf (txt ds) r)
def partX (ds:Docs) (d:Int×List UInt8) (a:Nat):List (Int×Int×Int):=(part (txt (ds++[d])) ds.length a).map (rowX (ds++[d]))
section
variable {ds : Docs} {d : Int × List UInt8} {rate : Int}
theorem txt_snoc:txt (ds++[d])=txt ds++[d.2]:=by simp
theorem txt_new:(txt (ds++[d]))[ds.length]? =some d.2:=by simp
theorem txt_len:(txt (ds++[d])).length=ds.length+1:=by simp
theorem partX_old (h:refRight (txt ds)=true):partX ds d (d.2.length+1)=rowsM ds:=by
  unfold partX
  have h1:=part_old (txt ds) d.2
  rw [List.length_map] at h1
  rw [txt_snoc,h1]
  have h2:refSorted (txt ds)=all (txt ds):=by unfold refSorted;rw [if_pos h];rfl
  unfold rowsM
  rw [h2]
  refine List.map_congr_left fun r hr=> ?_
  have hlt:r.1<(txt ds).length:=docs_lt ((all_docs (txt ds)).mem_iff.1 hr)
  have hlt':r.1<ds.length:=by simpa using hlt
  unfold rowX
  have e1:(ds++[d]).getD r.1 (0,[])=ds.getD r.1 (0,[]):=by
    rw [List.getD_eq_getElem?_getD,List.getD_eq_getElem?_getD,List.getElem?_append_left hlt']
  have e2:symOf (txt (ds++[d])) r=symOf (txt ds) r:=by unfold symOf;rw [txt_snoc,getD_app hlt]
  rw [e1,e2]
theorem partX_new (h:refRight (txt (ds++[d]))=true):partX ds d 0=rowsM (ds++[d]):=by
  unfold partX
  rw [part_zero txt_len]
  have h2:refSorted (txt (ds++[d]))=all (txt (ds++[d])):=by unfold refSorted;rw [if_pos h];rfl
  unfold rowsM
  rw [h2];rfl
theorem insA_map2 {α β:Type} (f:α→β) (l:List α) (i:Nat) (x:α):(insA l i x).map f=insA (l.map f) i (f x):=by unfold insA;simp [List.map_take,List.map_drop]
theorem insA_filter {α:Type} (p:α→Bool) (l:List α) (i:Nat) (x:α):(insA l i x).filter p=if p x then insA (l.filter p) ((l.take i).countP p) x else l.filter p:=by
  unfold insA
  rw [List.filter_append,List.filter_cons]
  have hl:l.filter p=(l.take i).filter p++(l.drop i).filter p:=by rw [←List.filter_append,List.take_append_drop]
  have hc:(l.take i).countP p=((l.take i).filter p).length:=List.countP_eq_length_filter
  by_cases hp:p x=true
  · rw [if_pos hp,if_pos hp,hl,hc,List.take_left,List.drop_left]
  · rw [if_neg hp,if_neg hp,hl]
def rowI (ds:Docs) (d:Int×List UInt8) (a:Nat):Nat:=below (txt (ds++[d])) (ds.length,a) (part (txt (ds++[d])) ds.length (a+1))
def newX (ds:Docs) (d:Int×List UInt8) (a:Nat):Int×Int×Int:=(d.1,(a:Int),symOf (txt (ds++[d])) (ds.length,a))
theorem rowX_new (a:Nat):rowX (ds++[d]) (ds.length,a)=newX ds d a:=by
  unfold rowX newX
  have:(ds++[d]).getD ds.length (0,[])=d:=by simp [List.getD_eq_getElem?_getD]
  rw [this]
theorem partX_step {a:Nat} (ha:a≤d.2.length):partX ds d a=insA (partX ds d (a+1)) (rowI ds d a) (newX ds d a):=by
  unfold partX rowI
  rw [part_step txt_new ha,insA_map2,rowX_new]
theorem rowI_le (a:Nat):rowI ds d a≤(partX ds d (a+1)).length:=by unfold rowI partX;rw [List.length_map];exact below_le _ _
theorem partX_syms (a:Nat):rowW (partX ds d a)=(part (txt (ds++[d])) ds.length a).map (symOf (txt (ds++[d]))):=by unfold rowW partX;rw [List.map_map];rfl
theorem rowI_end:rowI ds d d.2.length=ds.length:=part_end txt_new txt_len
theorem rowI_next {a:Nat} (ha:a<d.2.length):rowI ds d a=(rowW (partX ds d (a+2))).countP (fun y=>decide (y<(newX ds d (a+1)).2.2))+1+((rowW (partX ds d (a+2))).take (rowI ds d (a+1))).count (newX ds d (a+1)).2.2:=by
  rw [partX_syms]
  exact part_next txt_new txt_len ha
theorem rowW_ins (L:List (Int×Int×Int)) (i:Nat) (x:Int×Int×Int):rowW (insA L i x)=insA (rowW L) i x.2.2:=by unfold rowW;exact insA_map2 _ _ _ _
theorem rowM_ins (L:List (Int×Int×Int)) (i:Nat) (x:Int×Int×Int):rowM rate (insA L i x)=insL (rowM rate L) i (mkd rate x):=by unfold rowM;exact insA_map _ _ _ _
theorem rowS_ins (L:List (Int×Int×Int)) (i:Nat) (x:Int×Int×Int):rowS rate (insA L i x)=if mkd rate x then insA (rowS rate L) ((L.take i).countP (mkd rate)) (x.1,x.2.1) else rowS rate L:=by
  unfold rowS
  rw [insA_filter]
  split
  · exact insA_map2 _ _ _ _
  · rfl
theorem partX_small (hR:refRight (txt (ds++[d]))=true) (a:Nat):(partX ds d a).length≤500:=by
  unfold partX part
  rw [List.length_map]
  have h1:=List.length_filter_le (inP ds.length a) (all (txt (ds++[d])))
  have h2:refSorted (txt (ds++[d]))=all (txt (ds++[d])):=by unfold refSorted;rw [if_pos hR];rfl
  have h3:=sorted_small (txt (ds++[d]))
  rw [h2] at h3
  omega
theorem partX_sy (a:Nat):Sy (rowW (partX ds d a)):=fun x hx=>by
  rw [partX_syms] at hx
  obtain ⟨r, -,rfl⟩:=List.mem_map.1 hx
  exact sym_bound r
end
theorem put_at (p:Parts): ∀i,p.put i (p.at i)=p
  | 0=>rfl
  | 1=>rfl
  | 2=>rfl
  | _+3=>rfl
theorem swap_eq (x:Pt) (i:Nat) (r:Int×Int×Ar):x.swap i r=((if r.2.1=0 then 0 else r.2.1),{x with s:=(nextA true (x.p.at i) r).2.2,p:=x.p.put i (nextA true (x.p.at i) r).1}):=by
  unfold Pt.swap nextA
  by_cases e:r.2.1=0
  · rw [if_pos e,if_pos e,if_pos e]
    dsimp only
    have:(if x.p.at i=0 then r.2.2 else r.2.2.drop (x.p.at i))=r.2.2.drop (x.p.at i):=by
      split
      · rename_i q;rw [q,drop_zero]
      · rfl
    rw [this]
  · rw [if_neg e,if_neg e,if_neg e]
    rw [put_at]
theorem swap_T {s : Ar} {H1 H2 : List Int} {h : Int} {r : Int × Int × Ar} {c : Nat} {P : Tr → Prop} (hr : Rs s r (H1 ++ h :: H2) c P) :
    Inv (nextA true h r).2.2 (H1++(nextA true h r).1::H2)∧Grow s (nextA true h r).2.2∧(nextA true h r).2.2.busyN≤s.busyN+c∧
    ((r.2.1=0∧ ∃t',Rep (nextA true h r).2.2 (nextA true h r).1 t'∧P t')∨(r.2.1=2∧(nextA true h r).1=h∧s.size<s.busyN+c)):=by
  obtain ⟨i1,g1,c1,q1⟩:=nextA_T true hr
  refine ⟨i1,g1,c1,?_⟩
  rcases hr.res with ⟨z, -⟩|⟨z, -,z2⟩
  · rcases q1 with ⟨-,q⟩|⟨q, -⟩
    · exact .inl ⟨z,q⟩
    · unfold nextA at q;rw [if_pos z] at q;cases q
  · rcases q1 with ⟨q, -⟩|⟨-,q, -⟩
    · unfold nextA at q;rw [if_neg (by omega)] at q;cases q
    · exact .inr ⟨z,q,z2⟩
structure Pv (x:Pt) (H:List Int) (ds:Docs) (d:Int×List UInt8) (rate:Int) (a:Nat):Prop where
  inv:Inv x.s (x.p.wave::x.p.marks::x.p.spots::x.p.table::H)
  w:HasW x.s x.p.wave (rowW (partX ds d a))
  m:HasB x.s x.p.marks (rowM rate (partX ds d a))
  sp:HasL x.s x.p.spots (rowS rate (partX ds d a))
  t:HasL x.s x.p.table (docsM (ds++[d]))
  id:x.id=d.1
  text:x.text=d.2
  rt:x.rate=rate
  begun:x.begun=true
  over:x.over=false
  root:x.root=0
  pos:x.pos=(a:Int) - 1
  row:1≤a→x.row=(rowI ds d (a - 1):Nat)
structure Pe (x0 x:Pt) (H:List Int):Prop where
  inv:Inv x.s (x.p.wave::x.p.marks::x.p.spots::x.p.table::H)
  src:x.src=x0.src
  over:x.over=false
  root:x.root=x0.root
theorem sym_eq {x:Pt} {H:List Int} {ds:Docs} {d:Int×List UInt8} {rate:Int} {a:Nat} (h:Pv x H ds d rate (a+1)) (ha:a≤d.2.length):x.sym=(newX ds d a).2.2:=by
  have hp:=h.pos
  unfold Pt.sym newX symOf
  dsimp only
  rw [getD_at txt_new,h.text,hp]
  by_cases e:a=0
  · subst e;rw [if_neg (by omega),if_pos rfl]
  · rw [if_pos (by omega),if_neg e]
    rw [show ((((a+1:Nat):Int) - 1 - 1).toNat)=a - 1 by omega]
def costR (n:Nat):Nat:=13*n+50
theorem mkd_new (ds:Docs) (d:Int×List UInt8) (rate:Int) (a:Nat):mkd rate (newX ds d a)=decide ((a:Int) % rate=0):=rfl
theorem rowS_count (rate:Int) (L:List (Int×Int×Int)) (i:Nat):((rowM rate L).take i).count true=(L.take i).countP (mkd rate):=by
  unfold rowM
  rw [←List.map_take,List.count,List.countP_map]
  congr 1
  funext x
  simp
theorem next_num {b k n:Nat} (h1:b≤500) (h2:k≤500) (e:n=b+1+k):wrap64 (wrap64 ((b:Int)+1)+(k:Int))=(n:Int):=by
  have q:wrap64 ((b:Int)+1)=(b:Int)+1:=w64 (by omega) (by omega)
  rw [q]
  clear q
  rw [w64 (by omega) (by omega),e];omega
set_option maxHeartbeats 2000000 in
theorem pinsert_T {x : Pt} {H : List Int} {ds : Docs} {d : Int × List UInt8} {rate : Int} {a : Nat} (h : Pv x H ds d rate (a + 1)) (hR : Right (ds ++ [d])) (ha : a ≤ d.2.length) (hH : H.length ≤ 1000) :
    ∃r,x.insert=some r∧Grow x.s r.2.s∧r.2.s.busyN≤x.s.busyN+costR (partX ds d (a+1)).length∧
      ((r.1=0∧r.2.src=x.src∧Pv r.2 H ds d rate a)∨(r.1=2∧x.s.size<x.s.busyN+costR (partX ds d (a+1)).length∧Pe x r.2 H)):=by
  have hn:=partX_small hR.right (a+1)
  have hsy:=partX_sy (ds:=ds) (d:=d) (a+1)
  have hlw:(rowW (partX ds d (a+1))).length=(partX ds d (a+1)).length:=by simp [rowW]
  have hlm:(rowM rate (partX ds d (a+1))).length=(partX ds d (a+1)).length:=by simp [rowM]
  have hls:=rowS_length rate (partX ds d (a+1))
  have hri:=rowI_le (ds:=ds) (d:=d) a
  have hw:WR x.s 9 x.p.wave (rowW (partX ds d (a+1))):=⟨h.w,fun h0=>h.inv.pos (by simp) h0,by omega,hsy⟩
  have hc:0≤(newX ds d a).2.2∧(newX ds d a).2.2<257:=sym_bound _
  have hrow:x.row=(rowI ds d a:Nat):=h.row (by omega)
  have hsym:=sym_eq h ha
  have hid:x.id=(newX ds d a).1:=h.id
  have hpos:x.pos=(newX ds d a).2.1:=by rw [h.pos];show ((a+1:Nat):Int) - 1=(a:Int);omega
  have hmk:(x.pos % x.rate=0)↔mkd rate (newX ds d a)=true:=by
    rw [hpos,h.rt]
    exact decide_eq_true_iff.symm
  have hXid:=hR.id d (by simp)
  have hX:ItOk ((newX ds d a).1,(newX ds d a).2.1):=by
    have h40:=(right_len hR.right).2 ds.length
    rw [getD_at txt_new] at h40
    exact ⟨⟨by show 0≤d.1;omega,hXid.2⟩,by show 0≤(a:Int)∧(a:Int)<_;omega⟩
  have hstep:=partX_step (ds:=ds) (d:=d) ha
  have hnx:1≤a→wrap64 (wrap64 (((rowW (partX ds d (a+1))).countP (fun y=>decide (y<(newX ds d a).2.2)):Nat)+1)+(((rowW (partX ds d (a+1))).take (rowI ds d a)).count (newX ds d a).2.2:Nat))=(rowI ds d (a - 1):Nat):=fun h1=>by
    have e:=rowI_next (ds:=ds) (d:=d) (a:=a - 1) (by omega)
    rw [show a - 1+2=a+1 by omega,show a - 1+1=a by omega] at e
    have b1:=List.countP_le_length (p:=fun y=>decide (y<(newX ds d a).2.2)) (l:=rowW (partX ds d (a+1)))
    have b2:=List.count_le_length (a:=(newX ds d a).2.2) (l:=(rowW (partX ds d (a+1))).take (rowI ds d a))
    rw [List.length_take] at b2
    exact next_num (Nat.le_trans b1 (by rw [hlw];exact hn)) (Nat.le_trans b2 (Nat.le_trans (Nat.min_le_right _ _) (by rw [hlw];exact hn))) e
  have hhm:=h.m;have hhsp:=h.sp;have hht:=h.t;have hinv:=h.inv;have hoid:=h.id;have hotx:=h.text;have hort:=h.rt;have hobg:=h.begun;have hoov:=h.over;have hort2:=h.root
  clear h
  generalize hL:partX ds d (a+1)=L at*
  generalize hXg:newX ds d a=X at*
  generalize hi:rowI ds d a=i at*
  obtain ⟨r1,e1,R1⟩:=wInsert_R hinv (by simp;omega) hw (i:Int) X.2.2 (by omega) (by omega) hc
  rw [Int.toNat_natCast] at R1
  obtain ⟨i1,g1,c1,q1⟩:=swap_T (H1:=[]) (H2:=x.p.marks::x.p.spots::x.p.table::H) R1
  have hins : x.insert = if (x.swap 0 r1).1 = 0 then
      (if x.pos % x.rate=0 then
        (bRank (x.swap 0 r1).2.s (x.swap 0 r1).2.p.marks x.row).bind fun j=>(lInsert (x.swap 0 r1).2.s (x.swap 0 r1).2.p.spots j (x.id,x.pos)).bind fun r2=>
        if ((x.swap 0 r1).2.swap 2 r2).1=0 then ((x.swap 0 r1).2.swap 2 r2).2.mark (wrap64 (wrap64 (((rowW L).countP (fun y=>decide (y<X.2.2)):Nat)+1)+(((rowW L).take i).count X.2.2:Nat))) true
        else some ((x.swap 0 r1).2.swap 2 r2)
       else (x.swap 0 r1).2.mark (wrap64 (wrap64 (((rowW L).countP (fun y=>decide (y<X.2.2)):Nat)+1)+(((rowW L).take i).count X.2.2:Nat))) false)
    else some (x.swap 0 r1):=by
    unfold Pt.insert
    rw [hsym,hrow,hw.before hinv hc,Option.bind_some,hw.rank hinv hc (i:Int) (by omega) (by omega),Option.bind_some,Int.toNat_natCast,e1,Option.bind_some]
  rw [hins]
  generalize hNX:wrap64 (wrap64 (((rowW L).countP (fun y=>decide (y<X.2.2)):Nat)+1)+(((rowW L).take i).count X.2.2:Nat))=NX at*
  clear hins
  have E1:=swap_eq x 0 r1
  have hat0:x.p.at 0=x.p.wave:=rfl
  rw [hat0] at E1
  obtain ⟨n1,hn1⟩: ∃n1,nextA true x.p.wave r1=n1:=⟨_,rfl⟩
  rw [hn1] at E1 i1 g1 c1 q1
  have hg1:=g1.size
  rcases q1 with ⟨z,t1,p1,p2⟩|⟨z,a2,a3⟩
  · rw [if_pos z] at E1
    rw [E1]
    dsimp only
    rw [if_pos rfl]
    have hbm:BR n1.2.2 x.p.marks (rowM rate L):=⟨hhm.grow g1,fun h0=>i1.pos (by simp) h0,by omega⟩
    have fin : ∀ (y : Pt) (ls : List (Int × Int)), y.p.wave = n1.1 → y.p.marks = x.p.marks → y.p.table = x.p.table → y.row = (i : Int) → y.pos = X.2.1 → y.id = x.id → y.text = x.text → y.rate = x.rate → y.begun = true → y.over = false → y.root = 0 → y.src = x.src →
        Inv y.s (n1.1::x.p.marks::y.p.spots::x.p.table::H)→Grow n1.2.2 y.s→y.s.busyN≤n1.2.2.busyN+(3*(rowS rate L).length+4)→HasL y.s y.p.spots (rowS rate (insA L i X))→
        ∃r,y.mark NX (mkd rate X)=some r∧Grow x.s r.2.s∧r.2.s.busyN≤x.s.busyN+costR L.length∧((r.1=0∧r.2.src=x.src∧Pv r.2 H ds d rate a)∨(r.1=2∧x.s.size<x.s.busyN+costR L.length∧Pe x r.2 H)):=by
      intro y ls yw ym yt yr yp yi ytx yrt yb yo yroot ysrc hI hG hB hS
      have hbm2:BR y.s x.p.marks (rowM rate L):=⟨(hhm.grow g1).grow hG,fun h0=>hI.pos (by simp) h0,by omega⟩
      obtain ⟨r3,e3,R3⟩:=bInsert_R hI (by simp;omega) hbm2 (i:Int) (mkd rate X) (by omega) (by omega)
      rw [Int.toNat_natCast] at R3
      obtain ⟨i3,g3,c3,q3⟩:=swap_T (H1:=[n1.1]) (H2:=y.p.spots::x.p.table::H) R3
      have hmark:y.mark NX (mkd rate X)=some (({y with s:=r3.2.2,row:=NX,pos:=wrap64 (y.pos - 1)}:Pt).swap 1 r3):=by
        unfold Pt.mark
        rw [ym,yr,e3];rfl
      have E3:=swap_eq {y with s:=r3.2.2,row:=NX,pos:=wrap64 (y.pos - 1)} 1 r3
      have hat1:(({y with s:=r3.2.2,row:=NX,pos:=wrap64 (y.pos - 1)}:Pt).p.at 1)=x.p.marks:=ym
      rw [hat1] at E3
      rw [hmark,E3]
      generalize nextA true x.p.marks r3=n3 at*
      have hg3:=g3.size
      have hgy:=hG.size
      refine ⟨_,rfl,(g1.trans hG).trans g3,by dsimp only;unfold costR;omega,?_⟩
      rcases q3 with ⟨z3,t3,p3,p4⟩|⟨z3,b2,b3⟩
      · refine .inl ⟨by rw [if_pos z3],ysrc,?_⟩
        have hx1:X.2.1=(a:Int):=by rw [←hXg];rfl
        refine ⟨?_,?_,?_,?_,?_,yi.trans hoid,ytx.trans hotx,yrt.trans hort,yb,yo,yroot,?_,fun h1=>hnx h1⟩
        · show Inv n3.2.2 (y.p.wave::n3.1::y.p.spots::y.p.table::H)
          rw [yw,yt];exact i3
        · show HasW n3.2.2 y.p.wave _
          rw [yw,hstep,rowW_ins];exact ⟨t1,(p1.grow hG).grow g3,p2⟩
        · show HasB n3.2.2 n3.1 _
          rw [hstep,rowM_ins];exact ⟨t3,p3,p4⟩
        · show HasL n3.2.2 y.p.spots _
          rw [hstep];exact hS.grow g3
        · show HasL n3.2.2 y.p.table _
          rw [yt];exact ((hht.grow g1).grow hG).grow g3
        · show wrap64 (y.pos - 1)=(a:Int) - 1
          have:=(right_len hR.right).2 ds.length
          rw [getD_at txt_new] at this
          rw [yp,hx1,w64 (by omega) (by omega)]
      · refine .inr ⟨by rw [if_neg (by omega)];exact z3,by unfold costR;omega,?_⟩
        refine ⟨?_,ysrc,yo,yroot.trans hort2.symm⟩
        show Inv n3.2.2 (y.p.wave::n3.1::y.p.spots::y.p.table::H)
        rw [yw,yt];exact i3
    by_cases hm:mkd rate X=true
    · rw [if_pos (hmk.2 hm)]
      show∃r,((bRank n1.2.2 x.p.marks x.row).bind fun j=>(lInsert n1.2.2 x.p.spots j (x.id,x.pos)).bind fun r2=>_)=some r∧_
      have eb:bRank n1.2.2 x.p.marks x.row=some (((L.take i).countP (mkd rate):Nat):Int):=by rw [hrow,hbm.rank i1 (i:Int) (by omega) (by omega),Int.toNat_natCast,rowS_count]
      rw [eb,Option.bind_some]
      have hbs:LR n1.2.2 x.p.spots (rowS rate L):=⟨hhsp.grow g1,fun h0=>i1.pos (by simp) h0,by omega⟩
      have hcl:(L.take i).countP (mkd rate)≤(rowS rate L).length:=by
        unfold rowS
        rw [List.length_map,←List.countP_eq_length_filter]
        exact (List.take_sublist i L).countP_le
      obtain ⟨r2,e2,R2⟩:=lInsert_R i1 (by simp;omega) hbs (((L.take i).countP (mkd rate):Nat):Int) hX (by omega) (by omega)
      rw [Int.toNat_natCast] at R2
      obtain ⟨i2,g2,c2,q2⟩:=swap_T (H1:=[n1.1,x.p.marks]) (H2:=x.p.table::H) R2
      have e2':lInsert n1.2.2 x.p.spots (((L.take i).countP (mkd rate):Nat):Int) (x.id,x.pos)=some r2:=by rw [hid,hpos];exact e2
      rw [e2',Option.bind_some]
      have E2:=swap_eq {x with s:=n1.2.2,p:=x.p.put 0 n1.1} 2 r2
      have hat2:(({x with s:=n1.2.2,p:=x.p.put 0 n1.1}:Pt).p.at 2)=x.p.spots:=rfl
      rw [hat2] at E2
      rw [E2]
      generalize nextA true x.p.spots r2=n2 at*
      have hg2:=g2.size
      rcases q2 with ⟨z2,t2,p3,p4⟩|⟨z2,b2,b3⟩
      · rw [if_pos z2]
        dsimp only
        rw [if_pos rfl,←hm]
        exact fin {x with s:=n2.2.2,p:=(x.p.put 0 n1.1).put 2 n2.1} [] rfl rfl rfl hrow hpos rfl rfl rfl hobg hoov hort2 rfl i2 g2 c2 (by rw [rowS_ins,if_pos hm];exact ⟨t2,p3,p4⟩)
      · rw [if_neg (by omega)]
        dsimp only
        rw [if_neg (by omega)]
        refine ⟨_,rfl,g1.trans g2,by dsimp only;unfold costR;omega, .inr ⟨z2,by unfold costR;omega,?_⟩⟩
        exact ⟨i2,rfl,hoov,rfl⟩
    · rw [if_neg (fun q=>hm (hmk.1 q)),←Bool.eq_false_iff.2 hm]
      exact fin {x with s:=n1.2.2,p:=x.p.put 0 n1.1} [] rfl rfl rfl hrow hpos rfl rfl rfl hobg hoov hort2 rfl i1 (Grow.refl _) (by show n1.2.2.busyN≤_;omega) (by rw [rowS_ins,if_neg hm];exact hhsp.grow g1)
  · rw [if_neg (by omega)] at E1
    rw [E1]
    dsimp only
    rw [if_neg (by omega)]
    refine ⟨_,rfl,g1,by dsimp only;unfold costR;omega, .inr ⟨z,by unfold costR;omega,?_⟩⟩
    exact ⟨i1,rfl,hoov,rfl⟩
end Go.Proofs.YtjeofpkhgmefgaaGreat
namespace Go.Proofs.YtjeofpkhgmefgaaGreat
open Go.RowKit
theorem mem_wait_drop {s:Ar} {x:Int} {y:Nat} (h:y∈(s.drop x).wait):y∈s.wait∨(y:Int)=x:=by
  unfold Ar.drop at h
  by_cases hc:s.cnt x=0
  · rw [if_pos hc] at h;exact .inl h
  · rw [if_neg hc] at h
    obtain ⟨n,rfl, -⟩:=Ar.cnt_pos hc
    dsimp only at h
    split at h
    · rcases List.mem_append.1 h with h|h
      · exact .inl h
      · simp at h;exact .inr (by rw [h])
    · exact .inl h
theorem mem_wait_dropAll: ∀{l:List Int} {s:Ar} {y:Nat},y∈(s.dropAll l).wait→y∈s.wait∨(y:Int)∈l
  | [],_,_,h=> .inl h
  | x::l,s,y,h=>by
    rcases mem_wait_dropAll (l:=l) (s:=s.drop x) h with h|h
    · rcases mem_wait_drop h with h|h
      · exact .inl h
      · exact .inr (by rw [h];simp)
    · exact .inr (by simp [h])
theorem work_one {s : Ar} {g : Int} (hI : Inv s [g]) {x : Nat} (hw : s.wait = [x]) (hg : g ≠ 0) (hne : g ≠ (x : Int)) (hk : ∀ k ∈ (s.node x).kids, k ≠ 0 → k ∈ (s.get g).kids) :
    ∃u,s.work 1073741824=some u∧u.2=(s.pop x []).dropAll (s.node x).kids∧Inv u.2 [g]∧Stay s u.2 [g]∧u.2.wait=[]∧u.2.busyN+1=s.busyN:=by
  obtain ⟨h1,h2,h3⟩:=hI.pop (by simp) hw
  have h4:=Inv.dropAll h1
  have h5:=Grow.dropAll (s.node x).kids (s.pop x [])
  have h6:Stay s ((s.pop x []).dropAll (s.node x).kids) [g]:=⟨h5.size.trans h3.size,fun y hy=>by
    obtain ⟨a,b⟩:=h3.same y hy
    exact ⟨(h5.has a).1,(h5.has a).2.trans b⟩⟩
  have h7:=busyN_dropAll (s.node x).kids (s.pop x [])
  have hwt:((s.pop x []).dropAll (s.node x).kids).wait=[]:=by
    rw [List.eq_nil_iff_forall_not_mem]
    intro y hy
    rcases mem_wait_dropAll hy with h|h
    · exact absurd h (by simp [Ar.pop])
    · obtain ⟨y1,y2,y3,y4⟩:=h4.wq.mem y hy
      obtain ⟨g1,g2,g3,g4⟩: ∃n:Nat,g=n∧1≤n∧n≤((s.pop x []).dropAll (s.node x).kids).size:=by
        obtain ⟨n,e,a,b, -⟩:=has_nat (h4.held g (by simp) hg)
        exact ⟨n,e,a,b⟩
      have hy0:(y:Int)≠0:=by omega
      have hyk:=hk _ h hy0
      have hsame:=(h6.same g (.held (by simp) hg)).2
      have hgh:=h4.held g (by simp) hg
      rw [←hsame] at hyk
      have:=(h4.kid_has hgh hyk hy0).2
      rw [Ar.cnt_nat y1 y2] at this
      exact this y4
  refine ⟨(1,(s.pop x []).dropAll (s.node x).kids),?_,rfl,h4,h6,hwt,by dsimp only;omega⟩
  unfold Ar.work rounds
  rw [show (10000:Nat)=9998+1+1 from rfl]
  unfold Ar.workL
  rw [if_neg (by omega),hw]
  dsimp only
  unfold Ar.workL
  rw [show wrap64 (0+1)=1 from IntWalk.wrap64_in _ (by omega),if_neg (by omega)]
  have e:({s with wait:=[],node:=upd s.node x Nd.zero,used:=upd s.used x false,busy:=wrap64 (s.busy - 1)}:Ar)=s.pop x []:=rfl
  rw [e,hwt]
theorem VR.busy {s:Ar} {root:Int} {ds:Docs} {rate:Int} (hI:Inv s [root]) (hv:VR s root ds rate) (hw:s.wait=[]):8*s.busyN≤2048+56*(rowsM ds).length+16*ds.length:=by
  rcases hv.ex with ⟨rfl,rfl⟩|⟨t,hr,tw,tm,tsp,tt,rfl,h1,h2,h3,h4⟩
  · have:=hI.busy_le hw (T:=[.nil]) ⟨.nil,trivial⟩
    simp only [sizes,List.map_cons,List.map_nil,List.sum_cons,List.sum_nil,Tr.size] at this
    omega
  · have:=hI.busy_le hw (T:=[_]) ⟨hr,trivial⟩
    simp only [sizes,List.map_cons,List.map_nil,List.sum_cons,List.sum_nil,Tr.size] at this
    have a1:=h1.size;have a2:=h2.size;have a3:=h3.size;have a4:=h4.size
    have b1:=rowS_length rate (rowsM ds)
    have b2:(rowW (rowsM ds)).length=(rowsM ds).length:=by simp [rowW]
    have b3:(rowM rate (rowsM ds)).length=(rowsM ds).length:=by simp [rowM]
    have b4:(docsM ds).length=ds.length:=by simp [docsM]
    omega
theorem VR.root {s:Ar} {root:Int} {ds:Docs} {rate:Int} (hv:VR s root ds rate) (h0:root≠0):s.has root=true∧s.get root=⟨6,(vOf s root).wave,(vOf s root).marks,(vOf s root).spots,(vOf s root).table,0,0⟩:=by
  rcases hv.ex with ⟨rfl,rfl⟩|⟨t,hr,tw,tm,tsp,tt,rfl,h1,h2,h3,h4⟩
  · exact absurd rfl h0
  · obtain ⟨k0,k1,k2,k3,hh,hg, -⟩:=hr.get
    have hvi:vIs s root=true:=by
      unfold vIs
      rw [hh,hg]
      simp [hv.live h0]
    have hz:vOf s root=⟨k0,k1,k2,k3⟩:=by unfold vOf;rw [if_pos ⟨h0,hvi⟩,hg]
    rw [hz];exact ⟨hh,hg⟩
theorem VR.table_ne {s:Ar} {root:Int} {ds:Docs} {rate:Int} {H:List Int} (hI:Inv s H) (hv:VR s root ds rate) (hd:ds≠[]) (hl:ds.length≤1000):(vOf s root).table≠0:=fun e=>by
  obtain ⟨t,hr,hb⟩:=(hv.parts hI hl).2.2.2.1.1
  rw [e] at hr
  rcases hb with ⟨-,hb⟩|hb
  · unfold docsM at hb;simp at hb;exact hd hb
  · exact hr.ne_ofL hb rfl
theorem busy_int {s:Ar} {H:List Int} (h:Inv s H):s.busy=(s.busyN:Int):=h.busy
theorem root_refs {s:Ar} {g root:Int} (hI:Inv s [g,root]) (hw:s.wait=[]) (h0:root≠0) (hk:(s.get g).kids=(s.get root).kids):s.refs root=0:=by
  obtain ⟨rk,hrk⟩:=hI.rank
  have hlt: ∀{x k:Int},s.has x=true→k∈(s.get x).kids→k≠0→rk k.toNat<rk x.toNat:=fun {x k} hx hkx hk0=>by
    obtain ⟨n,rfl,n1,n2,n3⟩:=has_nat hx
    rw [get_nat hx,Int.toNat_natCast] at hkx
    rw [Int.toNat_natCast]
    exact hrk n n1 n2 n3 k hkx hk0
  have hrt:s.has root=true:=hI.held root (by simp) h0
  have hall: ∀x,Rc s [g,root] x→x=g∨rk x.toNat≤rk root.toNat:=fun x hx=>by
    induction hx with
    | held h1 h2=>
      simp only [List.mem_cons,List.not_mem_nil,or_false] at h1
      rcases h1 with rfl|rfl
      · exact .inl rfl
      · exact .inr (Nat.le_refl _)
    | @kid y k hr h1 h2 ih=>
      have hy:=(hI.rc hr).1
      rcases ih with rfl|ih
      · rw [hk] at h1
        exact .inr (Nat.le_of_lt (hlt hrt h1 h2))
      · exact .inr (Nat.le_of_lt (Nat.lt_of_lt_of_le (hlt hy h1 h2) ih))
  refine refsTo_zero _ _ _ _ fun n n1 n2 n3 hm=> ?_
  have hn:s.has (n:Int)=true:=has_iff.2 ⟨by omega,by omega,by simpa using n3⟩
  have hm':root∈(s.get (n:Int)).kids:=by rw [get_nat hn,Int.toNat_natCast];exact hm
  have h1:=hlt hn hm' h0
  rcases hall _ (hI.reached hw hn) with e|e
  · rw [e,hk] at hm'
    have:=hlt hrt hm' h0
    omega
  · omega
theorem share_T {s : Ar} {root : Int} {ds : Docs} {rate : Int} (hI : Inv s [root]) (hw : s.wait = []) (hd : ds ≠ []) (hR : Right ds) (h0 : root ≠ 0) (hv : VR s root ds rate) (hroom : s.busyN < s.size) :
    ∃(g:Int) (s1:Ar),vMake s (vOf s root)=(g,0,s1)∧g≠root∧g≠0∧Inv s1 [g,root]∧Grow s s1∧s1.busy=s.busy+1∧s1.wait=[]∧VR s1 g ds rate∧VR s1 root ds rate∧vOf s1 g=vOf s root∧vOf s1 root=vOf s root:=by
  have hl:=hR.len
  obtain ⟨hh,hg⟩:=hv.root h0
  have htn:=hv.table_ne hI hd (by omega)
  have hmk:vMake s (vOf s root)=s.make ⟨6,(vOf s root).wave,(vOf s root).marks,(vOf s root).spots,(vOf s root).table,0,0⟩:=by
    unfold vMake;rw [if_neg fun q=>htn q.2.2.2]
  rw [hmk]
  have hkids:(⟨6,(vOf s root).wave,(vOf s root).marks,(vOf s root).spots,(vOf s root).table,0,0⟩:Nd).kids=(s.get root).kids:=by rw [hg]
  rcases hI.make (by simp) ⟨6,(vOf s root).wave,(vOf s root).marks,(vOf s root).spots,(vOf s root).table,0,0⟩ ⟨by dsimp only;omega,by dsimp only;omega⟩ U64.zero (fun k hk hk0=>(hI.kid_has hh (by rw [←hkids];exact hk) hk0).2) with ⟨-,m2⟩|⟨f,f1,f2,f3,m1,m2,m3,m4,m5,m6,m7⟩
  · omega
  · have hwt : (s.make ⟨6, (vOf s root).wave, (vOf s root).marks, (vOf s root).spots, (vOf s root).table, 0, 0⟩).2.2.wait = s.wait := by
      unfold Ar.make
      split
      · rfl
      · split
        · rfl
        · split<;>rfl
    generalize s.make ⟨6,(vOf s root).wave,(vOf s root).marks,(vOf s root).spots,(vOf s root).table,0,0⟩=r at*
    have hfr:(f:Int)≠root:=fun e=>by
      have:=(has_iff.1 hh).2.2
      rw [←e,Int.toNat_natCast,f3] at this;cases this
    have hfh:r.2.2.has (f:Int)=true:=has_iff.2 ⟨by omega,by rw [m4.size];omega,by simpa using m5⟩
    have hfg:r.2.2.get (f:Int)=⟨6,(vOf s root).wave,(vOf s root).marks,(vOf s root).spots,(vOf s root).table,0,0⟩:=by rw [get_nat hfh,Int.toNat_natCast,m6]
    have hf0:(f:Int)≠0:=by omega
    have hcf:r.2.2.cnt (f:Int)≠0:=m3.pos (by simp) hf0
    have hcr:r.2.2.cnt root≠0:=m3.pos (by simp) h0
    have hof:vOf r.2.2 f=vOf s root:=by
      have e:vOf r.2.2 (f:Int)=⟨(r.2.2.get f).k0,(r.2.2.get f).k1,(r.2.2.get f).k2,(r.2.2.get f).k3⟩:=by
        unfold vOf
        rw [if_pos ⟨hf0,by unfold vIs;rw [hfh,hfg];simp [hcf]⟩]
      rw [e,hfg]
    obtain ⟨gh,gg⟩:=m4.has hh
    have hor:vOf r.2.2 root=vOf s root:=by
      have:vIs r.2.2 root=true:=by unfold vIs;rw [gh,gg,hg];simp [hcr]
      rw [show vOf r.2.2 root=⟨(r.2.2.get root).k0,(r.2.2.get root).k1,(r.2.2.get root).k2,(r.2.2.get root).k3⟩ from by unfold vOf;rw [if_pos ⟨h0,this⟩],gg,hg]
    rcases hv.ex with ⟨e, -⟩|⟨t,hr,tw,tm,tsp,tt,rfl,h1,h2,h3,h4⟩
    · exact absurd e h0
    · obtain ⟨k0,k1,k2,k3,hh',hg',r0,r1,r2,r3⟩:=hr.get
      rw [hg] at hg'
      simp only [Nd.mk.injEq] at hg'
      obtain ⟨-,rfl,rfl,rfl,rfl, -⟩:=hg'
      refine ⟨f,r.2.2,Prod.ext m1 (Prod.ext m2 rfl),hfr,hf0,m3,m4,by rw [m3.busy,hI.busy,m7];omega,by rw [hwt,hw],⟨.inr ⟨_, .nd hfh hfg (r0.grow m4) (r1.grow m4) (r2.grow m4) (r3.grow m4),tw,tm,tsp,tt,rfl,h1,h2,h3,h4⟩,fun _=>hcf⟩,⟨.inr ⟨_,hr.grow m4,tw,tm,tsp,tt,rfl,h1,h2,h3,h4⟩,fun _=>hcr⟩,hof,hor⟩
theorem unshare_T {s : Ar} {g root : Int} {ds : Docs} {rate : Int} (hI : Inv s [g, root]) (hw : s.wait = []) (hg0 : g ≠ 0) (h0 : root ≠ 0) (hne : g ≠ root) (hv : VR s g ds rate) (hr : VR s root ds rate) (ho : vOf s g = vOf s root) (hrf : s.refs root = 0) :
    ∃u,(s.drop root).work 1073741824=some u∧s.cnt root≠0∧Inv u.2 [g]∧u.2.wait=[]∧u.2.busy+1=s.busy∧VR u.2 g ds rate∧vOf u.2 g=vOf s g∧u.2.used root.toNat=false∧
      ∀n:Nat,1≤n→n≤s.size→s.used n=true→(n:Int)≠root→u.2.used n=true∧u.2.count n+((s.get root).kids.count (n:Int):Int)=s.count n:=by
  obtain ⟨gh,gg⟩:=hv.root hg0
  obtain ⟨rh,rg⟩:=hr.root h0
  obtain ⟨x,rfl,x1,x2,x3⟩:=has_nat rh
  have hcx:s.cnt (x:Int)≠0:=hI.pos (by simp) h0
  have hc1:s.count x=1:=by
    rw [hI.cnt x x1 x2 x3,hrf]
    simp [List.count_cons,hne]
  have hc1':s.cnt (x:Int)=1:=by rw [Ar.cnt_nat x1 x2,hc1]
  have hI':Inv s ((x:Int)::[g]):=hI.perm (List.Perm.swap _ _ _)
  have hId:=hI'.drop
  have hdrop:s.drop (x:Int)={s with count:=upd s.count x 0,wait:=[x]}:=by
    unfold Ar.drop
    rw [if_neg hcx,hc1',show wrap64 (1 - 1)=0 from IntWalk.wrap64_in _ (by omega),if_pos rfl,hw];simp
  have hgd:(s.drop (x:Int)).get g=s.get g:=((Grow.drop s x).has gh).2
  obtain ⟨u,hu,hue,hui,hus,huw,hub⟩:=work_one hId (x:=x) (by rw [hdrop]) hg0 hne (fun k hk hk0=>by
    rw [hgd,gg,ho]
    have:((s.drop (x:Int)).node x).kids=(s.get (x:Int)).kids:=by rw [hdrop,get_nat rh,Int.toNat_natCast]
    rw [this,rg] at hk
    exact hk)
  have hbd:=busyN_drop s (x:Int)
  have hvg:VR u.2 g ds rate:=by
    refine ⟨?_,fun _=>hui.pos (by simp) hg0⟩
    rcases hv.ex with h|⟨t,ht,hvt⟩
    · exact .inl h
    · exact .inr ⟨t,(ht.grow (Grow.drop s x)).held hus (by simp),hvt⟩
  have hgu:u.2.has g=true∧u.2.get g=s.get g:=by
    obtain ⟨a,b⟩:=hus.same g (.held (by simp) hg0)
    exact ⟨a,b.trans hgd⟩
  have hou:vOf u.2 g=vOf s g:=by
    have:=(hvg.root hg0).2
    rw [hgu.2,gg] at this
    simp only [Nd.mk.injEq] at this
    obtain ⟨-,a,b,c,d, -⟩:=this
    cases h:vOf u.2 g;cases h':vOf s g
    rw [h,h'] at a b c d
    simp only at a b c d
    rw [a,b,c,d]
  have husd: ∀(l:List Int) (z:Ar),(z.dropAll l).used=z.used:=fun l=>by
    induction l with
    | nil=>intro z;rfl
    | cons y l ih=>
      intro z
      show ((z.drop y).dropAll l).used=_
      rw [ih]
      unfold Ar.drop;split<;>rfl
  refine ⟨u,hu,hcx,hui,huw,by rw [hui.busy,hI.busy];omega,hvg,hou,?_,fun n n1 n2 n3 hnx=> ?_⟩
  · rw [hue,husd,Int.toNat_natCast]
    exact upd_self _ _ _
  · have hnx':n≠x:=fun e=>hnx (by rw [e])
    have hun:u.2.used n=true:=by
      rw [hue,husd]
      show upd (s.drop (x:Int)).used x false n=true
      rw [upd_ne _ _ _ _ hnx',hdrop];exact n3
    refine ⟨hun,?_⟩
    have husz:u.2.size=s.size:=by rw [hus.size,Ar.drop_size]
    rw [hui.cnt n n1 (by rw [husz];exact n2) hun,hI.cnt n n1 n2 n3]
    have h1:=refsTo_upd s.used s.node (n:Int) x false Nd.zero x1 s.size x2
    rw [x3] at h1
    simp only [Bool.false_eq_true,if_false,if_true,Nat.add_zero] at h1
    have h2:u.2.refs (n:Int)=refsTo (upd s.used x false) (upd s.node x Nd.zero) (n:Int) s.size:=by
      unfold Ar.refs
      rw [husz]
      have hnode: ∀(l:List Int) (z:Ar),(z.dropAll l).node=z.node:=fun l=>by
        induction l with
        | nil=>intro z;rfl
        | cons y l ih=>
          intro z
          show ((z.drop y).dropAll l).node=_
          rw [ih]
          unfold Ar.drop;split<;>rfl
      rw [hue,husd,hnode]
      show refsTo (upd (s.drop (x:Int)).used x false) (upd (s.drop (x:Int)).node x Nd.zero) (n:Int) s.size=_
      rw [hdrop]
    have h3:(s.get (x:Int)).kids=(s.node x).kids:=by rw [get_nat rh,Int.toNat_natCast]
    rw [h2,h3]
    have h4:List.count (n:Int) [g,(x:Int)]=List.count (n:Int) [g]:=by
      rw [List.count_cons,List.count_cons,List.count_nil,List.count_cons,List.count_nil,if_neg (by simpa using fun e=>hnx' (by omega))]
    rw [h4]
    unfold Ar.refs
    omega
end Go.Proofs.YtjeofpkhgmefgaaGreat
namespace Go.Proofs.YtjeofpkhgmefgaaGreat
open Go.RowKit
structure P0 (x:Pt) (H:List Int) (ds:Docs) (d:Int×List UInt8) (rate:Int):Prop where
  inv:Inv x.s (x.src::H)
  vr:VR x.s x.src ds rate
  id:x.id=d.1
  text:x.text=d.2
  rt:x.rate=rate
  begun:x.begun=false
  over:x.over=false
  root:x.root=0
  pos:x.pos=(d.2.length:Int)
  p0:x.p=Parts.zero
theorem inv_filter {s:Ar} {H:List Int}: ∀(l:List Int),Inv s (l++H)→Inv s ((l.filter fun h=> !decide (h=0))++H)
  | [],h=>h
  | k::l,h=>by
    rw [List.filter_cons]
    by_cases hk:k=0
    · rw [hk] at h
      rw [if_neg (by simp [hk])]
      exact inv_filter l (Inv.tail_zero h)
    · rw [if_pos (by simp [hk])]
      have h1:Inv s (l++(k::H)):=h.perm List.perm_middle.symm
      have h2:=inv_filter l h1
      exact h2.perm List.perm_middle
theorem insI_perm' (x:Int): ∀l:List Int,(insI x l).Perm (x::l)
  | []=>List.Perm.refl _
  | y::l=>by
    unfold insI
    split
    · exact List.Perm.refl _
    · exact ((insI_perm' x l).cons y).trans (List.Perm.swap x y l)
theorem sortI_perm': ∀l:List Int,(sortI l).Perm l
  | []=>List.Perm.refl _
  | x::l=>(insI_perm' x (sortI l)).trans ((sortI_perm' l).cons x)
theorem stop_T {x:Pt} {H:List Int} (h:Inv x.s (x.src::x.p.wave::x.p.marks::x.p.spots::x.p.table::H)) (ho:x.over=false):Inv x.stop.s H∧Grow x.s x.stop.s∧x.stop.s.busyN=x.s.busyN:=by
  have hh:x.held=(sortI [x.src,x.p.wave,x.p.marks,x.p.spots,x.p.table]).filter fun h=> !decide (h=0):=by unfold Pt.held;rw [ho,if_neg (by decide)]
  show Inv (x.s.dropAll x.held) H∧Grow x.s (x.s.dropAll x.held)∧(x.s.dropAll x.held).busyN=_
  rw [hh]
  have h1:Inv x.s ([x.src,x.p.wave,x.p.marks,x.p.spots,x.p.table]++H):=h
  have h2:Inv x.s (sortI [x.src,x.p.wave,x.p.marks,x.p.spots,x.p.table]++H):=h1.perm ((sortI_perm' _).symm.append_right H)
  exact ⟨Inv.dropAll (inv_filter _ h2),Grow.dropAll _ _,busyN_dropAll _ _⟩
theorem keep1 {s:Ar} {H:List Int} {k:Int} (h:Inv s H) (hH:H.length≤900000) (hk:k≠0→s.cnt k≠0):Inv (s.keep k) (k::H)∧Grow s (s.keep k)∧(s.keep k).busyN=s.busyN∧ ∀j,s.cnt j≠0→(s.keep k).cnt j≠0:=by
  by_cases e:k=0
  · subst e
    rw [keep_zero]
    exact ⟨h.zero_cons (by omega),Grow.refl _,rfl,fun j hj=>hj⟩
  · have hI:=h.keep (by omega) (hk e)
    refine ⟨hI,Grow.keep _ _,busyN_keep _ _,fun j hj=> ?_⟩
    exact h.live hI (Grow.keep _ _) (fun y=>by rw [List.count_cons];omega) hj
theorem begin_T {x : Pt} {H : List Int} {ds : Docs} {d : Int × List UInt8} {rate : Int} (h : P0 x H ds d rate) (hR : Right (ds ++ [d])) (hH : H.length ≤ 900) :
    ∃r,x.begin=some r∧Grow x.s r.2.s∧r.2.s.busyN≤x.s.busyN+40∧
      ((r.1=0∧r.2.src=x.src∧Pv r.2 (x.src::H) ds d rate (d.2.length+1))∨(r.1=2∧x.s.size<x.s.busyN+40∧Pe x r.2 (x.src::H))):=by
  have hlen:=hR.len
  rw [List.length_append,List.length_cons,List.length_nil] at hlen
  have hrd:refRight (txt ds)=true:=by
    have:=hR.right
    unfold refRight at this⊢
    simp only [Bool.and_eq_true,List.all_eq_true,decide_eq_true_eq] at this⊢
    refine ⟨fun t ht=>this.1 t (by rw [txt_snoc];exact List.mem_append.2 (.inl ht)),by rw [List.length_map];omega⟩
  obtain ⟨pw,pm,psp,pt,hvi⟩:=h.vr.parts h.inv (by omega)
  obtain ⟨q,hq⟩: ∃q,vOf x.s x.src=q:=⟨_,rfl⟩
  rw [hq] at pw pm psp pt
  have k1:=keep1 h.inv (by simp;omega) pw.live
  have k2:=keep1 k1.1 (by simp;omega) (fun e=>k1.2.2.2 _ (pm.live e))
  have k3:=keep1 k2.1 (by simp;omega) (fun e=>k2.2.2.2 _ (k1.2.2.2 _ (psp.live e)))
  have k4:=keep1 k3.1 (by simp;omega) (fun e=>k3.2.2.2 _ (k2.2.2.2 _ (k1.2.2.2 _ (pt.live e))))
  have hkp:keepP x.s q=(((x.s.keep q.wave).keep q.marks).keep q.spots).keep q.table:=rfl
  have hG:Grow x.s (keepP x.s q):=((k1.2.1.trans k2.2.1).trans k3.2.1).trans k4.2.1
  have hB:(keepP x.s q).busyN=x.s.busyN:=by rw [hkp,k4.2.2.1,k3.2.2.1,k2.2.2.1,k1.2.2.1]
  have hI:Inv (keepP x.s q) (q.wave::q.marks::q.spots::q.table::x.src::H):=k4.1.perm (by
    have e1:(q.table::q.spots::q.marks::q.wave::x.src::H)=[q.table,q.spots,q.marks,q.wave]++(x.src::H):=rfl
    have e2:(q.wave::q.marks::q.spots::q.table::x.src::H)=[q.wave,q.marks,q.spots,q.table]++(x.src::H):=rfl
    rw [e1,e2]
    refine List.Perm.append_right _ ?_
    have:[q.wave,q.marks,q.spots,q.table]=[q.table,q.spots,q.marks,q.wave].reverse:=rfl
    rw [this]
    exact (List.reverse_perm _).symm)
  obtain ⟨s1,hs1⟩: ∃s1,keepP x.s q=s1:=⟨_,rfl⟩
  rw [hs1] at hG hB hI
  clear hkp k1 k2 k3 k4
  have hlt:LR s1 q.table (docsM ds):=⟨by obtain ⟨t,a,b⟩:=pt.ex;exact ⟨t,a.grow hG,b⟩,fun e=>hI.pos (by simp) e,by simp [docsM];omega⟩
  have hd:=hR.id d (by simp)
  have h40:=(right_len hR.right).2 ds.length
  rw [getD_at txt_new] at h40
  have hnn: ∀y∈docsM ds,y.1≠d.1:=fun y hy e=>by
    unfold docsM at hy
    obtain ⟨z,hz,rfl⟩:=List.mem_map.1 hy
    have hn:=hR.nodup
    rw [List.map_append,List.nodup_append] at hn
    exact hn.2.2 z.1 (List.mem_map.2 ⟨z,hz,rfl⟩) d.1 (by simp) e
  have hdl:(docsM ds).length=ds.length:=by simp [docsM]
  obtain ⟨r,e1,R⟩:=tAdd_R hI (by simp;omega) hlt (x:=(d.1,(d.2.length:Int))) ⟨hd.1,hd.2,by omega,by omega⟩ hnn (by omega)
  have hst:x.start={x with s:=s1,p:=q,begun:=true,row:=(ds.length:Int)}:=by
    unfold Pt.start
    rw [hq]
    rw [hs1,hlt.len hI,hdl]
  have hb:x.begin=some (x.start.swap 3 r):=by
    unfold Pt.begin
    rw [hst]
    dsimp only
    rw [hlt.all hI,Option.bind_some,if_pos (by omega),h.id,h.text,e1];rfl
  obtain ⟨i1,g1,c1,q1⟩:=swap_T (H1:=[q.wave,q.marks,q.spots]) (H2:=x.src::H) R
  have E:=swap_eq x.start 3 r
  have hat:x.start.p.at 3=q.table:=by rw [hst];rfl
  rw [hat] at E
  rw [hb,E]
  generalize nextA true q.table r=n1 at*
  rw [hst]
  have hgs:=hG.size
  refine ⟨_,rfl,hG.trans g1,by dsimp only;omega,?_⟩
  rcases q1 with ⟨z,t1,p1,p2⟩|⟨z,a2,a3⟩
  · refine .inl ⟨by rw [if_pos z],rfl,?_⟩
    have hX:=partX_old (d:=d) hrd
    have hdn:docsM (ds++[d])=docsM ds++[(d.1,(d.2.length:Int))]:=by unfold docsM;simp
    refine ⟨?_,?_,?_,?_,?_,h.id,h.text,h.rt,rfl,h.over,h.root,?_,?_⟩
    · exact i1.perm (by exact List.Perm.refl _)
    · show HasW n1.2.2 q.wave _
      rw [hX];obtain ⟨t,a,b⟩:=pw.ex;exact ⟨t,(a.grow hG).grow g1,b⟩
    · show HasB n1.2.2 q.marks _
      rw [hX];obtain ⟨t,a,b⟩:=pm.ex;exact ⟨t,(a.grow hG).grow g1,b⟩
    · show HasL n1.2.2 q.spots _
      rw [hX];obtain ⟨t,a,b⟩:=psp.ex;exact ⟨t,(a.grow hG).grow g1,b⟩
    · show HasL n1.2.2 n1.1 _
      rw [hdn];exact ⟨t1,p1,p2⟩
    · show x.pos=((d.2.length+1:Nat):Int) - 1
      rw [h.pos];omega
    · intro _
      show (ds.length:Int)=_
      rw [show d.2.length+1 - 1=d.2.length by omega,rowI_end]
  · refine .inr ⟨by rw [if_neg (by omega)];exact z,by omega,⟨?_,rfl,h.over,rfl⟩⟩
    exact i1.perm (List.Perm.refl _)
theorem end_T {x : Pt} {H : List Int} {ds : Docs} {d : Int × List UInt8} {rate : Int} (h : Pv x (x.src :: H) ds d rate 0) (hR : Right (ds ++ [d])) (hH : H.length ≤ 900) :
    ∃e y,x.step=some (true,e,y)∧Grow x.s y.s∧y.s.busyN≤x.s.busyN+1∧y.over=true∧
      ((e=0∧y.root≠0∧Inv y.s (y.root::H)∧VR y.s y.root (ds++[d]) rate)∨(e=2∧y.root=0∧x.s.busyN=x.s.size∧Inv y.s H)):=by
  obtain ⟨tt,ht1,ht2⟩:=h.t
  have htn:x.p.table≠0:=by
    rcases ht2 with ⟨-,q⟩|ht2
    · unfold docsM at q;simp at q
    · exact ht1.ne_ofL ht2
  have hmk:vMake x.s x.p=x.s.make ⟨6,x.p.wave,x.p.marks,x.p.spots,x.p.table,0,0⟩:=by
    unfold vMake;rw [if_neg (fun q=>htn q.2.2.2)]
  have hst:x.step=some (true,(vMake x.s x.p).2.1,({x with s:=(vMake x.s x.p).2.2,root:=(vMake x.s x.p).1}:Pt).stop):=by
    unfold Pt.step
    rw [h.over,if_neg (by decide),h.begun,if_pos rfl,if_neg (by have:=h.pos;omega)]
  rw [hst,hmk]
  rcases h.inv.make (by simp;omega) ⟨6,x.p.wave,x.p.marks,x.p.spots,x.p.table,0,0⟩ ⟨by dsimp only;omega,by dsimp only;omega⟩ U64.zero (fun k hk h0=>h.inv.pos (by simp [Nd.kids] at hk;simp;rcases hk with q|q|q|q<;>simp [q]) h0) with ⟨m1,m2⟩|⟨f,f1,f2,f3,m1,m2,m3,m4,m5,m6,m7⟩
  · rw [m1]
    have hI:Inv x.s (x.src::x.p.wave::x.p.marks::x.p.spots::x.p.table::H):=h.inv.perm (by
      have e1:(x.p.wave::x.p.marks::x.p.spots::x.p.table::x.src::H)=[x.p.wave,x.p.marks,x.p.spots,x.p.table]++x.src::H:=rfl
      rw [e1];exact List.perm_middle)
    obtain ⟨s1,s2,s3⟩:=stop_T (x:={x with s:=x.s,root:=0}) hI h.over
    exact ⟨_,_,rfl,s2,Nat.le_trans (Nat.le_of_eq s3) (Nat.le_succ _),rfl, .inr ⟨rfl,rfl,m2,s1⟩⟩
  · generalize x.s.make ⟨6,x.p.wave,x.p.marks,x.p.spots,x.p.table,0,0⟩=r at*
    have hI:Inv r.2.2 (x.src::x.p.wave::x.p.marks::x.p.spots::x.p.table::((f:Int)::H)):=m3.perm (by
      have e1:((f:Int)::x.p.wave::x.p.marks::x.p.spots::x.p.table::x.src::H)=[(f:Int),x.p.wave,x.p.marks,x.p.spots,x.p.table]++x.src::H:=rfl
      rw [e1]
      refine List.perm_middle.trans (List.Perm.cons _ ?_)
      show ((f:Int)::([x.p.wave,x.p.marks,x.p.spots,x.p.table]++H)).Perm ([x.p.wave,x.p.marks,x.p.spots,x.p.table]++(f:Int)::H)
      exact List.perm_middle.symm)
    obtain ⟨s1,s2,s3⟩:=stop_T (x:={x with s:=r.2.2,root:=r.1}) hI h.over
    have hf0:(f:Int)≠0:=by omega
    have hfh:r.2.2.has (f:Int)=true:=has_iff.2 ⟨by omega,by rw [m4.size];omega,by simpa using m5⟩
    obtain ⟨tw,w1,w2⟩:=h.w
    obtain ⟨tm,n1,n2⟩:=h.m
    obtain ⟨tsp,p1,p2⟩:=h.sp
    have hX:=partX_new hR.right
    rw [hX] at w2 n2 p2
    have hrep:Rep r.2.2 (f:Int) (.nd 6 0 0 tw tm tsp tt):= .nd hfh (by rw [get_nat hfh,Int.toNat_natCast,m6]) (w1.grow m4) (n1.grow m4) (p1.grow m4) (ht1.grow m4)
    refine ⟨_,_,rfl,m4.trans s2,?_,rfl, .inl ⟨m2,?_,?_,?_⟩⟩
    · rw [s3];exact Nat.le_of_eq m7
    · show r.1≠0
      rw [m1];exact hf0
    · show Inv _ (r.1::H)
      rw [m1];exact s1
    · show VR _ r.1 _ _
      rw [m1]
      exact ⟨.inr ⟨_,hrep.grow s2,tw,tm,tsp,tt,rfl,w2,n2,p2,ht2⟩,fun _=>s1.pos (by simp) hf0⟩
end Go.Proofs.YtjeofpkhgmefgaaGreat
namespace Go.Proofs.YtjeofpkhgmefgaaGreat
open Go.RowKit
theorem VR.move {s s':Ar} {h:Int} {ds:Docs} {rate:Int} (hv:VR s h ds rate) (hr: ∀t,Rep s h t→Rep s' h t) (hl:h≠0→s'.cnt h≠0):VR s' h ds rate:=by
  refine ⟨?_,hl⟩
  rcases hv.ex with h0|⟨t,ht,hvt⟩
  · exact .inl h0
  · exact .inr ⟨t,hr t ht,hvt⟩
def Stage (x:Pt) (H:List Int) (ds:Docs) (d:Int×List UInt8) (rate:Int) (j:Nat):Prop:=
  (j=d.2.length+3∧P0 x H ds d rate)∨(∃a,j=a+1∧a≤d.2.length+1∧Pv x (x.src::H) ds d rate a)∨(j=0∧x.over=true∧x.root≠0∧Inv x.s (x.root::H)∧VR x.s x.root (ds++[d]) rate)
section
variable {x : Pt} {H : List Int} {ds : Docs} {d : Int × List UInt8} {rate : Int}
theorem Stage.left {j:Nat} (h:Stage x H ds d rate j) (hl:d.2.length≤40):x.left=(j:Int):=by
  unfold Pt.left
  rcases h with ⟨rfl,h⟩|⟨a,rfl,ha,h⟩|⟨rfl,h, -⟩
  · rw [h.over,if_neg (by decide),h.begun,if_neg (by decide),h.text,w64 (by omega) (by omega)];omega
  · rw [h.over,if_neg (by decide),h.begun,if_pos rfl,h.pos,w64 (by omega) (by omega)];omega
  · rw [h,if_pos rfl];rfl
def Stage.list (x:Pt) (H:List Int) (j:Nat):List Int:=if j=0 then x.root::H else if x.begun then x.p.wave::x.p.marks::x.p.spots::x.p.table::x.src::H else x.src::H
theorem Stage.list_len (x:Pt) (H:List Int) (j:Nat):(Stage.list x H j).length≤H.length+5:=by
  unfold Stage.list
  split
  · simp
  · split<;>simp
theorem Stage.list_mem (x:Pt) (H:List Int) (j:Nat) {k:Int} (hk:k∈H):k∈Stage.list x H j:=by
  unfold Stage.list
  split
  · simp [hk]
  · split<;>simp [hk]
theorem Stage.inv {j:Nat} (h:Stage x H ds d rate j):Inv x.s (Stage.list x H j):=by
  unfold Stage.list
  rcases h with ⟨rfl,h⟩|⟨a,rfl,ha,h⟩|⟨rfl,h,h2,h3, -⟩
  · rw [if_neg (by omega),h.begun,if_neg (by decide)];exact h.inv
  · rw [if_neg (by omega),h.begun,if_pos rfl];exact h.inv
  · rw [if_pos rfl];exact h3
theorem Pv.work {a:Nat} (h:Pv x H ds d rate a) {s':Ar} (hI:Inv s' (x.p.wave::x.p.marks::x.p.spots::x.p.table::H)) (hs:Stay x.s s' (x.p.wave::x.p.marks::x.p.spots::x.p.table::H)):Pv {x with s:=s'} H ds d rate a:=
  ⟨hI,h.w.stay hs (by simp),h.m.stay hs (by simp),h.sp.stay hs (by simp),h.t.stay hs (by simp),h.id,h.text,h.rt,h.begun,h.over,h.root,h.pos,h.row⟩
theorem partX_le (hR:refRight (txt (ds++[d]))=true) (a:Nat):(partX ds d a).length≤(rowsM (ds++[d])).length:=by
  rw [←partX_new hR]
  unfold partX
  rw [List.length_map,List.length_map,part_zero txt_len]
  exact List.length_filter_le _ _
def PtIn (x:Pt):Prop:= -1≤x.pos∧x.pos≤x.text.length∧x.text.length≤50000∧1≤x.rate
theorem stage_step {j : Nat} (h : Stage x H ds d rate (j + 1)) (hR : Right (ds ++ [d])) (hr1 : 1 ≤ rate) (hH : H.length ≤ 900) (hroom : x.s.busyN + costR (rowsM (ds ++ [d])).length ≤ x.s.size) :
    PtIn x∧ ∃y u,x.step=some (decide (j=0),0,y)∧y.s.work 1073741824=some u∧Stage {y with s:=u.2} H ds d rate j∧u.2.wait=[]∧u.2.size=x.s.size∧
      Stage y H ds d rate j∧(1≤j→y.src=x.src)∧Inv u.2 (Stage.list y H j)∧Stay x.s u.2 H∧ ∀k t,k∈Stage.list y H j→Rep x.s k t→Rep u.2 k t:=by
  have h40:=(right_len hR.right).2 ds.length
  rw [getD_at txt_new] at h40
  have key:PtIn x∧ ∃y,x.step=some (decide (j=0),0,y)∧Grow x.s y.s∧Stage y H ds d rate j∧(1≤j→y.begun=true∧y.src=x.src):=by
    rcases h with ⟨hj,h⟩|⟨a,hj,ha,h⟩|⟨hj, -⟩
    · obtain rfl:j=d.2.length+2:=by omega
      refine ⟨⟨by rw [h.pos];omega,by rw [h.pos,h.text];exact Int.le_refl _,by rw [h.text];omega,by rw [h.rt];exact hr1⟩,?_⟩
      obtain ⟨r,e1,g1,c1,q1⟩:=begin_T h hR hH
      rcases q1 with ⟨z,hs,hp⟩|⟨-,hf, -⟩
      · refine ⟨r.2,?_,g1, .inr (.inl ⟨d.2.length+1,rfl,Nat.le_refl _,by rw [hs];exact hp⟩),fun _=>⟨hp.begun,hs⟩⟩
        unfold Pt.step
        rw [h.over,if_neg (by decide),h.begun,if_neg (by decide),e1]
        show some (Pt.asked r)=_
        unfold Pt.asked
        rw [if_pos z,hp.over,decide_eq_false (by omega)]
      · unfold costR at hroom;omega
    · obtain rfl:j=a:=by omega
      refine ⟨⟨by rw [h.pos];omega,by rw [h.pos,h.text];omega,by rw [h.text];omega,by rw [h.rt];exact hr1⟩,?_⟩
      cases j with
      | zero=>
        obtain ⟨e,y,e1,g1,c1,o1,q1⟩:=end_T h hR hH
        rcases q1 with ⟨rfl,hr0,hI,hv⟩|⟨-, -,hf, -⟩
        · exact ⟨y,by rw [e1];rfl,g1, .inr (.inr ⟨rfl,o1,hr0,hI,hv⟩),fun q=>by omega⟩
        · unfold costR at hroom;omega
      | succ b=>
        obtain ⟨r,e1,g1,c1,q1⟩:=pinsert_T h hR (by omega) (by simp;omega)
        rcases q1 with ⟨z,hs,hp⟩|⟨-,hf, -⟩
        · refine ⟨r.2,?_,g1, .inr (.inl ⟨b,rfl,by omega,by rw [hs];exact hp⟩),fun _=>⟨hp.begun,hs⟩⟩
          unfold Pt.step
          rw [h.over,if_neg (by decide),h.begun,if_pos rfl,if_pos (by rw [h.pos];omega),e1]
          show some (Pt.asked r)=_
          unfold Pt.asked
          rw [if_pos z,hp.over,decide_eq_false (by omega)]
        · have:=partX_le hR.right (b+1)
          unfold costR at hroom hf;omega
    · omega
  have hx0:=h.inv
  obtain ⟨hin,y,e1,g1,hy,hyb⟩:=key
  refine ⟨hin,y,?_⟩
  have hI:=hy.inv
  obtain ⟨u,w1,w2,w3, -,w5⟩:=hI.work (by have:=Stage.list_len y H j;omega) 1073741824
  refine ⟨u,e1,w1,?_,w5 (by omega),w3.size.trans g1.size,hy,fun q=>(hyb q).2,w2,((g1.stay hx0).mono fun k hk _=>Stage.list_mem x H (j+1) hk).trans (w3.mono fun k hk _=>Stage.list_mem y H j hk),fun k t hk ht=>(ht.grow g1).held w3 hk⟩
  rcases hy with ⟨hj,h0⟩|⟨a,hj,ha,hp⟩|⟨hj,o,r0,hI0,hv⟩
  · exact absurd (hyb (by omega)).1 (by rw [h0.begun];decide)
  · refine .inr (.inl ⟨a,hj,ha,?_⟩)
    unfold Stage.list at w2 w3
    rw [if_neg (by omega),hp.begun,if_pos rfl] at w2 w3
    exact hp.work w2 w3
  · subst hj
    unfold Stage.list at w2 w3
    rw [if_pos rfl] at w2 w3
    exact .inr (.inr ⟨rfl,o,r0,w2,hv.move (fun t ht=>ht.held w3 (by simp)) (fun q=>w2.pos (by simp) q)⟩)
theorem stage_stop {j:Nat} (h:Stage x H ds d rate (j+1)) (hH:H.length≤900):Inv x.stop.s H∧Grow x.s x.stop.s∧x.over=false:=by
  rcases h with ⟨hj,h⟩|⟨a,hj,ha,h⟩|⟨hj, -⟩
  · have hI : Inv x.s (x.src :: x.p.wave :: x.p.marks :: x.p.spots :: x.p.table :: H) := by
      rw [h.p0]
      have h1:=(((h.inv.zero_cons (by simp;omega)).zero_cons (by simp;omega)).zero_cons (by simp;omega)).zero_cons (by simp;omega)
      refine h1.perm ?_
      have e1:((0:Int)::0::0::0::x.src::H)=[0,0,0,0]++x.src::H:=rfl
      rw [e1];exact List.perm_middle
    obtain ⟨a,b, -⟩:=stop_T hI h.over
    exact ⟨a,b,h.over⟩
  · have hI : Inv x.s (x.src :: x.p.wave :: x.p.marks :: x.p.spots :: x.p.table :: H) := h.inv.perm (by
      have e1:(x.p.wave::x.p.marks::x.p.spots::x.p.table::x.src::H)=[x.p.wave,x.p.marks,x.p.spots,x.p.table]++x.src::H:=rfl
      rw [e1];exact List.perm_middle)
    obtain ⟨a,b, -⟩:=stop_T hI h.over
    exact ⟨a,b,h.over⟩
  · omega
theorem root_refs1 {s:Ar} {root:Int} (hI:Inv s [root]) (hw:s.wait=[]) (h0:root≠0):s.refs root=0:=by
  obtain ⟨rk,hrk⟩:=hI.rank
  have hlt: ∀{x k:Int},s.has x=true→k∈(s.get x).kids→k≠0→rk k.toNat<rk x.toNat:=fun {x k} hx hkx hk0=>by
    obtain ⟨n,rfl,n1,n2,n3⟩:=has_nat hx
    rw [get_nat hx,Int.toNat_natCast] at hkx
    rw [Int.toNat_natCast]
    exact hrk n n1 n2 n3 k hkx hk0
  have hall: ∀x,Rc s [root] x→rk x.toNat≤rk root.toNat:=fun x hx=>by
    induction hx with
    | held h1 h2=>rw [List.mem_singleton.1 h1];exact Nat.le_refl _
    | @kid y k hr h1 h2 ih=>exact Nat.le_of_lt (Nat.lt_of_lt_of_le (hlt (hI.rc hr).1 h1 h2) ih)
  refine refsTo_zero _ _ _ _ fun n n1 n2 n3 hm=> ?_
  have hn:s.has (n:Int)=true:=has_iff.2 ⟨by omega,by omega,by simpa using n3⟩
  have hm':root∈(s.get (n:Int)).kids:=by rw [get_nat hn,Int.toNat_natCast];exact hm
  have h1:=hlt hn hm' h0
  have h2:=hall _ (hI.reached hw hn)
  omega
theorem cnt_one {s:Ar} {root:Int} (hI:Inv s [root]) (hw:s.wait=[]) (h0:root≠0):s.cnt root=1:=by
  obtain ⟨n,rfl,n1,n2,n3⟩:=has_nat (hI.held root (by simp) h0)
  rw [Ar.cnt_nat n1 n2,hI.cnt n n1 n2 n3,root_refs1 hI hw h0]
  simp
def Sz (s:Ar) (B:Nat) (k:Int):Prop:= ∃t,Rep s k t∧8*t.size≤B
theorem VR.sz {s:Ar} {k:Int} {ds':Docs} {rate':Int} (hv:VR s k ds' rate'):Sz s (2048+56*(rowsM ds').length+16*ds'.length) k:=by
  rcases hv.ex with ⟨rfl,rfl⟩|⟨t,hr,tw,tm,tsp,tt,rfl,h1,h2,h3,h4⟩
  · exact ⟨.nil, .nil,by simp [Tr.size]⟩
  · refine ⟨_,hr,?_⟩
    simp only [Tr.size]
    have a1:=h1.size;have a2:=h2.size;have a3:=h3.size;have a4:=h4.size
    have b1:=rowS_length rate' (rowsM ds')
    have b2:(rowW (rowsM ds')).length=(rowsM ds').length:=by simp [rowW]
    have b3:(rowM rate' (rowsM ds')).length=(rowsM ds').length:=by simp [rowM]
    have b4:(docsM ds').length=ds'.length:=by simp [docsM]
    omega
theorem sz_reps {s:Ar} {B:Nat}: ∀{H:List Int},(∀k∈H,Sz s B k)→ ∃T,Reps s H T∧8*sizes T≤H.length*B
  | [],_=>⟨[],trivial,by simp [sizes]⟩
  | k::H,h=>by
    obtain ⟨t,a,b⟩:=h k (by simp)
    obtain ⟨T,c,e⟩:=sz_reps (H:=H) fun q hq=>h q (by simp [hq])
    refine ⟨t::T,⟨a,c⟩,?_⟩
    have e1:sizes (t::T)=t.size+sizes T:=by simp [sizes]
    have e2:(H.length+1)*B=H.length*B+B:=Nat.succ_mul _ _
    rw [e1,List.length_cons,e2]
    omega
theorem stage_busy {j B : Nat} (h : Stage x H ds d rate j) (hR : Right (ds ++ [d])) (hw : x.s.wait = []) (hs : j ≠ 0 → Sz x.s B x.src) (hH : ∀ k ∈ H, Sz x.s B k) :
    8*x.s.busyN≤(H.length+1)*B+2048+56*(rowsM (ds++[d])).length+16*(ds.length+1):=by
  obtain ⟨T,hT1,hT2⟩:=sz_reps hH
  have e2:(H.length+1)*B=H.length*B+B:=Nat.succ_mul _ _
  rw [e2]
  rcases h with ⟨rfl,h⟩|⟨a,rfl,ha,h⟩|⟨rfl, -, -,hI,hv⟩
  · obtain ⟨t0,r0,b0⟩:=hs (by omega)
    have:=h.inv.busy_le hw (T:=t0::T) ⟨r0,hT1⟩
    have e:sizes (t0::T)=t0.size+sizes T:=by simp [sizes]
    omega
  · obtain ⟨t0,r0,b0⟩:=hs (by omega)
    obtain ⟨t1,a1,b1⟩:=h.w
    obtain ⟨t2,a2,b2⟩:=h.m
    obtain ⟨t3,a3,b3⟩:=h.sp
    obtain ⟨t4,a4,b4⟩:=h.t
    have:=h.inv.busy_le hw (T:=t1::t2::t3::t4::t0::T) ⟨a1,a2,a3,a4,r0,hT1⟩
    have e:sizes (t1::t2::t3::t4::t0::T)=t1.size+(t2.size+(t3.size+(t4.size+(t0.size+sizes T)))):=by simp [sizes]
    have c1:=b1.size;have c2:=b2.size;have c3:=b3.size;have c4:=b4.size
    have l1:=rowS_length rate (partX ds d a)
    have l2:(rowW (partX ds d a)).length=(partX ds d a).length:=by simp [rowW]
    have l3:(rowM rate (partX ds d a)).length=(partX ds d a).length:=by simp [rowM]
    have l4:(docsM (ds++[d])).length=ds.length+1:=by simp [docsM]
    have l5:=partX_le hR.right a
    omega
  · obtain ⟨t0,r0,b0⟩:=hv.sz
    have:=hI.busy_le hw (T:=t0::T) ⟨r0,hT1⟩
    have e:sizes (t0::T)=t0.size+sizes T:=by simp [sizes]
    rw [List.length_append,List.length_cons,List.length_nil] at b0
    omega
theorem new_T {s:Ar} {root:Int} (hI:Inv s [root]) (hw:s.wait=[]) (hv:VR s root ds rate):Stage (Pt.new s root rate d.1 d.2) [root] ds d rate (d.2.length+3)∧(Pt.new s root rate d.1 d.2).s.wait=[]∧Stay s (Pt.new s root rate d.1 d.2).s [root]∧(Pt.new s root rate d.1 d.2).s.size=s.size∧(Pt.new s root rate d.1 d.2).s.busyN=s.busyN∧(root≠0→(Pt.new s root rate d.1 d.2).s.cnt root=2):=by
  have hk:=keep1 (k:=root) hI (by simp) (fun e=>hI.pos (by simp) e)
  have hwt:(s.keep root).wait=s.wait:=by unfold Ar.keep;split<;>rfl
  refine ⟨.inl ⟨rfl,hk.1,hv.move (fun t ht=>ht.grow hk.2.1) (fun e=>hk.1.pos (by simp) e),rfl,rfl,rfl,rfl,rfl,rfl,rfl,rfl⟩,by show (s.keep root).wait=[];rw [hwt,hw],hk.2.1.stay hI,Ar.keep_size _ _,hk.2.2.1,fun h0=> ?_⟩
  have h1:=cnt_one hI hw h0
  obtain ⟨n,rfl,n1,n2,n3⟩:=has_nat (hI.held root (by simp) h0)
  show (s.keep (n:Int)).cnt (n:Int)=2
  unfold Ar.keep
  rw [if_neg (by rw [h1];decide),h1]
  unfold Ar.cnt
  rw [if_pos (by dsimp only;omega)]
  dsimp only
  rw [Int.toNat_natCast,upd_self]
  exact w64 (by omega) (by omega)
end
end Go.Proofs.YtjeofpkhgmefgaaGreat
namespace Go.Proofs.YtjeofpkhgmefgaaGreat
open Go.RowKit
theorem right_snoc {ds:Docs} {d:Int×List UInt8} (hR:Right ds) (hl:ds.length<10) (h1:1≤d.1) (h2:d.1<9223372036854775808) (ht:d.2.length≤40) (hp: ∀y∈ds,y.1≠d.1):Right (ds++[d]):=by
  refine ⟨?_,fun y hy=> ?_,?_⟩
  · have h:=hR.right
    unfold refRight at h⊢
    simp only [Bool.and_eq_true,List.all_eq_true,decide_eq_true_eq] at h⊢
    refine ⟨fun t htm=> ?_,by simp;omega⟩
    rw [txt_snoc] at htm
    rcases List.mem_append.1 htm with h3|h3
    · exact h.1 t h3
    · rw [List.mem_singleton.1 h3];exact ht
  · rcases List.mem_append.1 hy with h3|h3
    · exact hR.id y h3
    · rw [List.mem_singleton.1 h3];exact ⟨h1,h2⟩
  · rw [List.map_append,List.nodup_append]
    refine ⟨hR.nodup,by simp,fun a ha b hb=> ?_⟩
    obtain ⟨y,hy,rfl⟩:=List.mem_map.1 ha
    simp at hb
    rw [hb];exact hp y hy
structure LoopT (s0:Ar) (root:Int) (ds:Docs) (d:Int×List UInt8) (rate:Int) (j:Nat) (x:Pt):Prop where
  st:Stage x [root] ds d rate j
  wt:x.s.wait=[]
  stay:Stay s0 x.s [root]
  src:x.src=root
  size:x.s.size=6000
  busy:8*x.s.busyN≤30000
section
variable {s0 : Ar} {root : Int} {ds : Docs} {d : Int × List UInt8} {rate : Int} {j : Nat} {x : Pt}
theorem LoopT.next (h : LoopT s0 root ds d rate (j + 1) x) (hj : 1 ≤ j) (hv : VR s0 root ds rate) (hRd : Right (ds ++ [d])) (hrows : (rowsM (ds ++ [d])).length ≤ 111) (hrows0 : (rowsM ds).length ≤ 70) (hl : ds.length < 10) (h1 : 1 ≤ rate) :
    PtIn x∧ ∃y u,x.step=some (false,0,y)∧y.s.work 1073741824=some u∧LoopT s0 root ds d rate j {y with s:=u.2}:=by
  obtain ⟨hin,y,u,e1,e2,e3,e4,e5, -,e7, -,e9, -⟩:=stage_step h.st hRd h1 (by simp) (by have:=h.busy;have:=h.size;unfold costR;omega)
  refine ⟨hin,y,u,by rw [e1,decide_eq_false (by omega)],e2,e3,e4,h.stay.trans e9,(e7 hj).trans h.src,e5.trans h.size,?_⟩
  have hz:Sz u.2 6128 root:=by
    obtain ⟨t,ht,hb⟩:=hv.sz
    exact ⟨t,ht.held (h.stay.trans e9) (by simp),by omega⟩
  have hb:=stage_busy (x:={y with s:=u.2}) (B:=6128) e3 hRd e4 (fun _=>by show Sz u.2 6128 y.src;rw [e7 hj,h.src];exact hz) (fun k hk=>by rw [List.mem_singleton.1 hk];exact hz)
  show 8*u.2.busyN≤30000
  replace hb:8*u.2.busyN≤_:=hb
  simp only [List.length_cons,List.length_nil] at hb
  omega
theorem stage_root {H:List Int} (h:Stage x H ds d rate (j+1)):x.root=0:=by
  rcases h with ⟨hj,h⟩|⟨a,hj,ha,h⟩|⟨hj, -⟩
  · exact h.root
  · exact h.root
  · omega
theorem stop_stop (x:Pt):x.stop.stop=x.stop:=by
  have e:x.stop.held=[]:=rfl
  show {x.stop with s:=x.stop.s.dropAll x.stop.held,over:=true,p:=Parts.zero}=_
  rw [e];rfl
theorem step_stop (x:Pt):x.stop.step=some (true,10,x.stop):=rfl
theorem LoopT.stop (h : LoopT s0 root ds d rate (j + 1) x) (hI : Inv s0 [root]) (hw : s0.wait = []) (hv : VR s0 root ds rate) (hR : Right ds) (h1 : 1 ≤ rate) (h2 : rate ≤ 16) :
    ∃u,x.stop.s.work 1073741824=some u∧x.stop.root=0∧u.2.busy=s0.busy∧(root≠0→u.2.cnt root=1)∧vCheck u.2 root rate ds=some true:=by
  obtain ⟨a1,a2, -⟩:=stage_stop h.st (by simp)
  obtain ⟨u,w1,w2,w3, -,w5⟩:=a1.work (by simp) 1073741824
  have hw2:=w5 (by omega)
  have hst:Stay s0 u.2 [root]:=(h.stay.trans ((a2.stay h.st.inv).mono fun k hk _=>Stage.list_mem x [root] (j+1) hk)).trans w3
  have hv2:VR u.2 root ds rate:=hv.move (fun t ht=>ht.held hst (by simp)) (fun e=>w2.pos (by simp) e)
  have hr0:=stage_root h.st
  refine ⟨u,w1,hr0,?_,cnt_one w2 hw2,hv2.check_own w2 hR h1 h2⟩
  rw [w2.busy,hI.busy]
  rw [hI.busy_same hw w2 hw2 hst]
theorem LoopT.nextK {k M : Nat} (h : LoopT s0 root ds d rate (d.2.length + 3 - k) x) (hk : k < M) (hM : M ≤ d.2.length + 2) (hv : VR s0 root ds rate) (hRd : Right (ds ++ [d])) (hrows : (rowsM (ds ++ [d])).length ≤ 111) (hrows0 : (rowsM ds).length ≤ 70) (hl : ds.length < 10) (h1 : 1 ≤ rate) :
    PtIn x∧ ∃y u,x.step=some (false,0,y)∧y.s.work 1073741824=some u∧LoopT s0 root ds d rate (d.2.length+3 - (k+1)) {y with s:=u.2}:=by
  rw [show d.2.length+3 - k=(d.2.length+3 - (k+1))+1 by omega] at h
  exact h.next (by omega) hv hRd hrows hrows0 hl h1
theorem LoopT.stopK {k : Nat} (h : LoopT s0 root ds d rate (d.2.length + 3 - k) x) (hM : k ≤ d.2.length + 2) (hI : Inv s0 [root]) (hw : s0.wait = []) (hv : VR s0 root ds rate) (hR : Right ds) (h1 : 1 ≤ rate) (h2 : rate ≤ 16) :
    ∃u,x.stop.s.work 1073741824=some u∧x.stop.root=0∧u.2.busy=s0.busy∧(root≠0→u.2.cnt root=1)∧vCheck u.2 root rate ds=some true:=by
  rw [show d.2.length+3 - k=(d.2.length+2 - k)+1 by omega] at h
  exact h.stop hI hw hv hR h1 h2
theorem LoopT.okK {k:Nat} (h:LoopT s0 root ds d rate (d.2.length+3 - k) x) (hM:k≤d.2.length+2) (h1:1≤rate) (hd:d.2.length≤40):PtIn x:=by
  rw [show d.2.length+3 - k=(d.2.length+2 - k)+1 by omega] at h
  rcases h.st with ⟨hj,h⟩|⟨a,hj,ha,h⟩|⟨hj, -⟩
  · exact ⟨by rw [h.pos];omega,by rw [h.pos,h.text];exact Int.le_refl _,by rw [h.text];omega,by rw [h.rt];exact h1⟩
  · exact ⟨by rw [h.pos];omega,by rw [h.pos,h.text];omega,by rw [h.text];omega,by rw [h.rt];exact h1⟩
  · omega
theorem step_num {k gk M n:Nat} (hk:k+gk=M) (hkm:k<M) (hM:M≤n+2) (hn:n≤40):(∃m,gk=m+1)∧wrap64 ((k:Int)+1)=(k:Int)+1∧decide ((k:Int)<(M:Int))=true:=by
  refine ⟨⟨gk - 1,by omega⟩,IntWalk.wrap64_in _ (by omega),by simpa using hkm⟩
theorem step_end {k gk M:Nat} (hk:k+gk=M) (hkm: ¬k<M):k=M∧decide ((M:Int)<(M:Int))=false:=⟨by omega,by simp⟩
theorem step_more {k m M:Nat} (hk:k+(m+1)=M):k+1+m=M∧m<m+1:=⟨by omega,by omega⟩
end
end Go.Proofs.YtjeofpkhgmefgaaGreat
namespace Go.Proofs.YtjeofpkhgmefgaaGreat
open Go.RowKit
structure LoopS (s0:Ar) (root:Int) (ds:Docs) (d:Int×List UInt8) (rate:Int) (j:Nat) (x:Pt):Prop where
  st:Stage x [root] ds d rate j
  wt:x.s.wait=[]
  stay:Stay s0 x.s [root]
  src:1≤j→x.src=root
  size:x.s.size=6000
  busy:8*x.s.busyN≤30000
section
variable {s0 : Ar} {root : Int} {ds : Docs} {d : Int × List UInt8} {rate : Int} {j : Nat} {x : Pt}
theorem LoopS.next (h : LoopS s0 root ds d rate (j + 1) x) (hv : VR s0 root ds rate) (hRd : Right (ds ++ [d])) (hrows : (rowsM (ds ++ [d])).length ≤ 111) (hrows0 : (rowsM ds).length ≤ 70) (hl : ds.length < 10) (h1 : 1 ≤ rate) :
    PtIn x∧ ∃y u,x.step=some (decide (j=0),0,y)∧y.s.work 1073741824=some u∧LoopS s0 root ds d rate j {y with s:=u.2}:=by
  obtain ⟨hin,y,u,e1,e2,e3,e4,e5, -,e7, -,e9, -⟩:=stage_step h.st hRd h1 (by simp) (by have:=h.busy;have:=h.size;unfold costR;omega)
  refine ⟨hin,y,u,e1,e2,e3,e4,h.stay.trans e9,fun q=>(e7 q).trans (h.src (by omega)),e5.trans h.size,?_⟩
  have hz:Sz u.2 6128 root:=by
    obtain ⟨t,ht,hb⟩:=hv.sz
    exact ⟨t,ht.held (h.stay.trans e9) (by simp),by omega⟩
  have hb:=stage_busy (x:={y with s:=u.2}) (B:=6128) e3 hRd e4 (fun q=>by show Sz u.2 6128 y.src;rw [e7 (by omega),h.src (by omega)];exact hz) (fun k hk=>by rw [List.mem_singleton.1 hk];exact hz)
  show 8*u.2.busyN≤30000
  replace hb:8*u.2.busyN≤_:=hb
  simp only [List.length_cons,List.length_nil] at hb
  omega
theorem held_inv {H:List Int} (h:Stage x H ds d rate (j+1)) (hH:H.length≤900):Inv x.s (x.held++H)∧x.held.length≤5:=by
  have key:Inv x.s (x.src::x.p.wave::x.p.marks::x.p.spots::x.p.table::H)∧x.over=false:=by
    rcases h with ⟨hj,h⟩|⟨a,hj,ha,h⟩|⟨hj, -⟩
    · refine ⟨?_,h.over⟩
      rw [h.p0]
      have h1:=(((h.inv.zero_cons (by simp;omega)).zero_cons (by simp;omega)).zero_cons (by simp;omega)).zero_cons (by simp;omega)
      refine h1.perm ?_
      have e1:((0:Int)::0::0::0::x.src::H)=[0,0,0,0]++x.src::H:=rfl
      rw [e1];exact List.perm_middle
    · exact ⟨h.inv.perm (by
        have e1:(x.p.wave::x.p.marks::x.p.spots::x.p.table::x.src::H)=[x.p.wave,x.p.marks,x.p.spots,x.p.table]++x.src::H:=rfl
        rw [e1];exact List.perm_middle),h.over⟩
    · omega
  have e:x.held=(sortI [x.src,x.p.wave,x.p.marks,x.p.spots,x.p.table]).filter fun h=> !decide (h=0):=by
    unfold Pt.held;rw [key.2,if_neg (by decide)]
  have hp:=sortI_perm' [x.src,x.p.wave,x.p.marks,x.p.spots,x.p.table]
  refine ⟨?_,?_⟩
  · rw [e]
    refine inv_filter _ ?_
    have h1:Inv x.s ([x.src,x.p.wave,x.p.marks,x.p.spots,x.p.table]++H):=key.1
    exact h1.perm (hp.symm.append_right H)
  · rw [e]
    refine Nat.le_trans (List.length_filter_le _ _) ?_
    rw [hp.length_eq];simp
theorem LoopS.done (h : LoopS s0 root ds d rate 0 x) (hv : VR s0 root ds rate) (hR : Right ds) (hRd : Right (ds ++ [d])) (h1 : 1 ≤ rate) (h2 : rate ≤ 16) :
    x.over=true∧x.root≠0∧Inv x.s [x.root,root]∧vCheck x.s x.root rate (ds++[d])=some true∧vCheck x.s root rate ds=some true∧x.s.cntE x.root=0∧(root≠0→(x.s.drop x.root).cntE root=0)∧
      ∃u,((x.s.drop x.root).drop root).work 1073741824=some u∧u.2.busy=0:=by
  obtain ⟨o,r0,hI,hv2⟩:x.over=true∧x.root≠0∧Inv x.s [x.root,root]∧VR x.s x.root (ds++[d]) rate:=by
    rcases h.st with ⟨hj, -⟩|⟨a,hj, -⟩|⟨-,h⟩
    · omega
    · omega
    · exact h
  have hI2:=hI.drop
  have hI3:=hI2.drop
  obtain ⟨u,w1,w2,w3, -,w5⟩:=hI3.work (by simp) 1073741824
  have hw:=w5 (by omega)
  have hz:=w2.busy_le hw (T:=[]) trivial
  have hv3:VR x.s root ds rate:=hv.move (fun t ht=>ht.held h.stay (by simp)) (fun e=>hI.pos (by simp) e)
  refine ⟨o,r0,hI,hv2.check_own hI hRd h1 h2,hv3.check_own hI hR h1 h2,?_,fun e=> ?_,u,w1,?_⟩
  · unfold Ar.cntE;rw [if_neg (hI.pos (by simp) r0)]
  · unfold Ar.cntE;rw [if_neg (hI2.pos (by simp) e)]
  · rw [w2.busy]
    simp [sizes] at hz
    rw [hz];rfl
theorem tell_num {k gk N:Nat} (hk:k+gk=N) (hkN:k<N) (hN:N≤43):(∃m,gk=m+1)∧wrap64 ((k:Int)+1)=(k:Int)+1∧decide ((k:Int)<(N:Int))=true∧wrap64 ((N:Int) - (k:Int))=((N - k:Nat):Int)∧wrap64 ((N:Int) - 1)=(N:Int) - 1∧((((k:Int)==(N:Int) - 1):Bool)=decide (N - (k+1)=0)):=by
  refine ⟨⟨gk - 1,by omega⟩,IntWalk.wrap64_in _ (by omega),by simpa using hkN,by rw [IntWalk.wrap64_in _ (by omega)];omega,IntWalk.wrap64_in _ (by omega),?_⟩
  by_cases e:N - (k+1)=0
  · rw [decide_eq_true e,beq_iff_eq];omega
  · rw [decide_eq_false e,beq_eq_false_iff_ne];omega
theorem LoopS.nextK {k N : Nat} (h : LoopS s0 root ds d rate (N - k) x) (hkN : k < N) (hv : VR s0 root ds rate) (hRd : Right (ds ++ [d])) (hrows : (rowsM (ds ++ [d])).length ≤ 111) (hrows0 : (rowsM ds).length ≤ 70) (hl : ds.length < 10) (h1 : 1 ≤ rate) (h40 : d.2.length ≤ 40) :
    PtIn x∧x.left=((N - k:Nat):Int)∧(Inv x.s (x.held++[root])∧x.held.length≤5)∧ ∃y u,x.step=some (decide (N - (k+1)=0),0,y)∧y.s.work 1073741824=some u∧LoopS s0 root ds d rate (N - (k+1)) {y with s:=u.2}:=by
  have e:N - k=(N - (k+1))+1:=by omega
  rw [e] at h⊢
  obtain ⟨a,b⟩:=h.next hv hRd hrows hrows0 hl h1
  exact ⟨a,h.st.left h40,held_inv h.st (by simp),b⟩
end
end Go.Proofs.YtjeofpkhgmefgaaGreat
namespace Go.Proofs.YtjeofpkhgmefgaaGreat
open Go.RowKit
structure LoopG (root:Int) (H:List Int) (ds:Docs) (d:Int×List UInt8) (rate:Int) (j:Nat) (x:Pt):Prop where
  st:Stage x H ds d rate j
  src:1≤j→x.src=root
  size:x.s.size=6000
  busy:8*x.s.busyN≤30000
  sz:1≤j∨root∈H→Sz x.s 6128 root
  hH:H=[]∨H=[root]
section
variable {root : Int} {H : List Int} {ds : Docs} {d : Int × List UInt8} {rate : Int} {j : Nat} {x : Pt}
theorem LoopG.len (h:LoopG root H ds d rate j x):H.length≤1:=by rcases h.hH with e|e<;>rw [e]<;>simp
theorem Stage.src_mem (h:Stage x H ds d rate j) (hj:1≤j):x.src∈Stage.list x H j:=by
  unfold Stage.list
  rw [if_neg (by omega)]
  split<;>simp
theorem LoopG.next (h : LoopG root H ds d rate (j + 1) x) (hRd : Right (ds ++ [d])) (hrows : (rowsM (ds ++ [d])).length ≤ 111) (hl : ds.length < 10) (h1 : 1 ≤ rate) :
    PtIn x∧ ∃y u,x.step=some (decide (j=0),0,y)∧y.s.work 1073741824=some u∧LoopG root H ds d rate j {y with s:=u.2}:=by
  have hlen:=h.len
  obtain ⟨hin,y,u,e1,e2,e3,e4,e5,e6,e7, -, -,e10⟩:=stage_step h.st hRd h1 (by omega) (by have:=h.busy;have:=h.size;unfold costR;omega)
  have hz:1≤j∨root∈H→Sz u.2 6128 root:=fun hq=>by
    obtain ⟨t,ht,hb⟩:=h.sz (.inl (by omega))
    refine ⟨t,e10 root t ?_ ht,hb⟩
    rcases hq with hq|hq
    · have:=e6.src_mem hq
      rw [e7 hq,h.src (by omega)] at this
      exact this
    · exact Stage.list_mem y H j hq
  refine ⟨hin,y,u,e1,e2,e3,fun q=>(e7 q).trans (h.src (by omega)),e5.trans h.size,?_,hz,h.hH⟩
  have hb:=stage_busy (x:={y with s:=u.2}) (B:=6128) e3 hRd e4 (fun q=>by show Sz u.2 6128 y.src;rw [e7 (by omega),h.src (by omega)];exact hz (.inl (by omega))) (fun k hk=>by
    have hk':k=root:=by rcases h.hH with e|e<;>rw [e] at hk<;>simp at hk;exact hk
    rw [hk'] at hk⊢
    exact hz (.inr hk))
  show 8*u.2.busyN≤30000
  replace hb:8*u.2.busyN≤_:=hb
  have:(H.length+1)*6128≤2*6128:=Nat.mul_le_mul_right _ (by omega)
  omega
theorem LoopG.done (h : LoopG root H ds d rate 0 x) (hRd : Right (ds ++ [d])) (h1 : 1 ≤ rate) (h2 : rate ≤ 16) :
    x.over=true∧x.root≠0∧Inv x.s (x.root::H)∧VR x.s x.root (ds++[d]) rate∧vCheck x.s x.root rate (ds++[d])=some true:=by
  rcases h.st with ⟨hj, -⟩|⟨a,hj, -⟩|⟨-,a,b,c,e⟩
  · omega
  · omega
  · exact ⟨a,b,c,e,e.check_own c hRd h1 h2⟩
theorem LoopG.stop0 (h:LoopG root [] ds d rate (j+1) x):x.over=false∧ ∃u,x.stop.s.work 1073741824=some u∧u.2.busy=0:=by
  obtain ⟨a1,a2,a3⟩:=stage_stop h.st (by simp)
  obtain ⟨u,w1,w2,w3, -,w5⟩:=a1.work (by simp) 1073741824
  have hz:=w2.busy_le (w5 (by omega)) (T:=[]) trivial
  refine ⟨a3,u,w1,?_⟩
  rw [w2.busy]
  simp [sizes] at hz
  rw [hz];rfl
theorem LoopG.held (h:LoopG root [] ds d rate (j+1) x):Inv x.s x.held∧x.held.length≤5∧(root≠0→1≤x.s.cnt root):=by
  obtain ⟨a,b⟩:=held_inv h.st (by simp)
  rw [List.append_nil] at a
  refine ⟨a,b,fun h0=> ?_⟩
  have hI:=h.st.inv
  have hm:=h.st.src_mem (by omega)
  rw [h.src (by omega)] at hm
  have:=hI.cpos (hI.held root hm h0) (hI.pos hm h0)
  omega
theorem new0_T {s:Ar} (hI:Inv s [root]) (hv:VR s root ds rate) (hz:s.size=6000) (hb:8*s.busyN≤30000) (hr:(rowsM ds).length≤70) (hl:ds.length≤10):LoopG root [root] ds d rate (d.2.length+3) (Pt.new s root rate d.1 d.2):=by
  have hk:=keep1 (k:=root) hI (by simp) (fun e=>hI.pos (by simp) e)
  refine ⟨.inl ⟨rfl,hk.1,hv.move (fun t ht=>ht.grow hk.2.1) (fun e=>hk.1.pos (by simp) e),rfl,rfl,rfl,rfl,rfl,rfl,rfl,rfl⟩,fun _=>rfl,(Ar.keep_size _ _).trans hz,by show 8*(s.keep root).busyN≤30000;rw [hk.2.2.1];exact hb,fun _=> ?_, .inr rfl⟩
  obtain ⟨t,a,b⟩:=hv.sz
  exact ⟨t,a.grow hk.2.1,by omega⟩
theorem new1_T {s:Ar} (hI:Inv s [root]) (hv:VR s root ds rate) (hz:s.size=6000) (hb:8*s.busyN≤30000) (hr:(rowsM ds).length≤70) (hl:ds.length≤10):LoopG root [] ds d rate (d.2.length+3) {Pt.new s root rate d.1 d.2 with s:=(Pt.new s root rate d.1 d.2).s.drop root}:=by
  have hk:=keep1 (k:=root) hI (by simp) (fun e=>hI.pos (by simp) e)
  have hg:=hk.2.1.trans (Grow.drop (s.keep root) root)
  have hI2:Inv ((s.keep root).drop root) [root]:=hk.1.drop
  refine ⟨.inl ⟨rfl,hI2,hv.move (fun t ht=>ht.grow hg) (fun e=>hI2.pos (by simp) e),rfl,rfl,rfl,rfl,rfl,rfl,rfl,rfl⟩,fun _=>rfl,hg.size.trans hz,?_,fun _=> ?_, .inl rfl⟩
  · show 8*((s.keep root).drop root).busyN≤30000
    rw [busyN_drop,hk.2.2.1];exact hb
  · obtain ⟨t,a,b⟩:=hv.sz
    exact ⟨t,a.grow hg,by omega⟩
theorem LoopG.next_doc (h : LoopG root [root] ds d rate 0 x) (hRd : Right (ds ++ [d])) (h1 : 1 ≤ rate) (h2 : rate ≤ 16) :
    Inv (x.s.drop root) [x.root]∧VR (x.s.drop root) x.root (ds++[d]) rate∧(x.s.drop root).size=6000∧8*(x.s.drop root).busyN≤30000∧x.root≠0:=by
  obtain ⟨-,b,c,e, -⟩:=h.done hRd h1 h2
  have hI:Inv (x.s.drop root) [x.root]:=(c.perm (List.Perm.swap _ _ _)).drop
  refine ⟨hI,e.move (fun t ht=>ht.grow (Grow.drop _ _)) (fun q=>hI.pos (by simp) q),(Grow.drop x.s root).size.trans h.size,by rw [busyN_drop];exact h.busy,b⟩
end
end Go.Proofs.YtjeofpkhgmefgaaGreat

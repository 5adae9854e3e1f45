/- Part 6 of what PutFull needs: the walks of the program's functions, and plain facts. -/
import Derived.Test.YtmlmnmkhigjaaaaGreatPutFullM5
import Derived.Deep.Slices
import Derived.Deep.Fields
import Derived.ChangeSame
import Derived.WideShapes
import Derived.Shelf.SlSortCmp.NoneTotal
import Derived.Shelf.SlicesQ.Equal
import Derived.Shelf.SlicesE.Equal
import Derived.Shelf.SlicesE.IndexFunc
import Derived.Shelf.SlicesE.DeleteFunc
import Derived.Shelf.Sort.Plain
import Derived.Test.YtmlmnmkhigjaaaaGreatProg
import Derived.Sort.OwnSortedInts
import Derived.Deep.Cut
import Derived.Sort.Grow
set_option linter.unusedSimpArgs false
set_option linter.unusedVariables false
set_option linter.unnecessarySimpa false
namespace Go.Proofs.YtmlmnmkhigjaaaaGreat
set_option maxRecDepth 100000
set_option maxHeartbeats 8000000
section
open Go.RowKit
attribute [local go_sem ↓] Go.wp_at_zero Go.wp_at_succ
attribute [local go_sem] str_len
theorem rowCells_length (l:List (Nat×Nat)):(rowCells l).length=l.length*2:=by unfold rowCells rowInts;rw [itemCells_length,List.length_map]
theorem rowCells_append (a b:List (Nat×Nat)):rowCells (a++b)=rowCells a++rowCells b:=by unfold rowCells rowInts;rw [List.map_append,itemCells_append]
theorem rowCells_take: ∀(l:List (Nat×Nat)) (k:Nat),(rowCells l).take (k*2)=rowCells (l.take k)
  | [],k=>by simp [rowCells,rowInts,itemCells]
  | x::l,0=>rfl
  | x::l,k+1=>by
    have:=rowCells_take l k
    rw [show (k+1)*2=k*2+1+1 by omega]
    unfold rowCells rowInts at this⊢
    simp [itemCells,this]
theorem rowCells_drop: ∀(l:List (Nat×Nat)) (k:Nat),(rowCells l).drop (k*2)=rowCells (l.drop k)
  | [],k=>by simp [rowCells,rowInts,itemCells]
  | x::l,0=>rfl
  | x::l,k+1=>by
    have:=rowCells_drop l k
    rw [show (k+1)*2=k*2+1+1 by omega]
    unfold rowCells rowInts at this⊢
    simp [itemCells,this]
theorem rowCells_one (l:List (Nat×Nat)): ∀u∈rowCells l,u.oneCell'=true:=by
  unfold rowCells rowInts
  induction l with
  | nil=>simp [itemCells]
  | cons x l ih=>
    intro u hu
    simp only [List.map_cons,itemCells,List.mem_cons] at hu
    rcases hu with rfl|rfl|hu
    · rfl
    · rfl
    · exact ih u hu
theorem rowCells_at {l:List (Nat×Nat)} {i:Nat} {r:Nat×Nat} (h:l[i]? =some r):(rowCells l)[i*2]? =some (.int .i64 (r.1:Int))∧(rowCells l)[i*2+1]? =some (.int .i64 (r.2:Int)):=by
  unfold rowCells rowInts
  exact itemCells_at _ i ((r.1:Int),(r.2:Int)) (by simp [h])
theorem step_wrap (j n:Nat) (h:j≤n) (hn:n≤50000):wrap64 ((j:Int)+1)=(j:Int)+1:=IntWalk.wrap64_in _ (by omega)
theorem sorted_walk (v : Value) (ts : List (List UInt8)) (hrt : refRight ts = true) (w : World) (h : Rk w 1 v ts.length (ts.map strOf)) :
    Calls Tryz.prog 75 #[v] w fun e w'=> ∃v',e= .returned v'∧w'.ownsRow w.heap.size 136 2 v' (refFold ts (upto ts ts.length 0)).length (rowCells (refFold ts (upto ts ts.length 0)))∧Below w.heap.size w w':=by
  obtain ⟨hn10,h40⟩:=right_len hrt
  have H40:=Lib.hid h40;clear h40
  have HK:=Lib.hid h
  obtain ⟨h1,A,cap,rfl,h2⟩:=h
  clear h1 h2
  go_enter Tryz.func75,Tryz.ntmps75
  go_wp2_with fail
  refine cg fun V0 hV_V0=> ?_
  have hB:=Below.refl w.heap.size w
  refine neb0 hV_V0 hB ?_;clear hB;intro z_V0 hB
  clear hV_V0
  refine rC (rright_calls _ ts (by omega) _ (HK.out.below hB)) fun W0 hb_W0=> ?_
  refine beb0 hb_W0 hB ?_;clear hb_W0 hB;intro z_W0 hB
  rw [hrt]
  have HB0:=Lib.hid hB;clear hB
  go_wp2_with fail
  go_loopg [3,4] ts.length (fun k p q wr=> ∃d:Nat,q= .int .i64 (d:Int)∧d+k=ts.length∧Hid (wr.ownsRow w.heap.size 136 2 p (refFold ts (upto ts d 0)).length (rowCells (refFold ts (upto ts d 0))))∧Hid (Below w.heap.size w wr))
  case atStart=>exact ⟨0,rfl,by omega,Lib.hid (own_nil _ _ _ _),HB0⟩
  case round=>
    clear HB0
    obtain ⟨d,rfl,hk,Hown,HB⟩:=hrel
    by_cases hlt:d<ts.length
    · obtain ⟨k,rfl⟩: ∃k,gk=k+1:=⟨gk - 1,by omega⟩
      obtain ⟨t,ht⟩:=at_some hlt
      have n1:decide ((d:Int)<(ts.length:Int))=true:=by simpa using hlt
      have n2:(d:Int)<(ts.length:Int):=by omega
      have E3:=Lib.hid (step_wrap d 10 (by omega) (by omega))
      have hgd:=getD_at ht
      have hlen:=H40.out d
      rw [hgd] at hlen
      go_wp2_with fail
      go_loopg [3,5] (t.length+1) (fun k2 p q wr=> ∃a:Nat,q= .int .i64 (a:Int)∧a+k2=t.length+1∧Hid (wr.ownsRow w.heap.size 136 2 p (refFold ts (upto ts d a)).length (rowCells (refFold ts (upto ts d a))))∧Hid (Below w.heap.size w wr))
      case atStart=>exact ⟨0,rfl,by omega,Hown,HB⟩
      case round=>
        clear Hown HB
        obtain ⟨a,rfl,hk2,Hown,HB⟩:=hrel
        obtain ⟨-,A',cap',hv,h2⟩:=HK.out.below HB.out
        obtain ⟨g,cs,T,rfl,kg,hcs⟩:=h2 (by omega)
        obtain ⟨rfl, -,rfl⟩:=Value.slice.inj hv
        have hci:cs[d]? =some (strOf t):=by rw [hcs d (by omega),List.getElem?_map,ht];rfl
        clear h2 hv hcs
        have c_kg:=f3 kg;have l_kgwr:=lt_of kg
        by_cases hla:a≤t.length
        · obtain ⟨k2,rfl⟩: ∃k,gk=k+1:=⟨gk - 1,by omega⟩
          have m1:decide ((a:Int)≤(t.length:Int))=true:=by simp;omega
          have E4:=Lib.hid (step_wrap a 40 (by omega) (by omega))
          have hw0:=HB.out.size
          have hd10:d≤10:=by omega
          have ha41:a≤41:=by omega
          have hB:=Below.refl wr.heap.size wr
          have c_kg:=f3 kg;have l_kgwr:=lt_of kg
          go_wp2_with fail
          refine wg fun V hV_V=> ?_
          refine neb1 hV_V hB kg ?_;clear hB kg c_kg;intro z_V hB kg c_kg
          obtain ⟨kr,c_kr,l_krV⟩:=nM hV_V (wr.heap.size)
          clear hV_V
          have hownV:=own_below Hown.out hB
          have hBV:=below_step HB.out hB
          have hszV:=hBV.size
          obtain ⟨out,hout⟩: ∃out,out=refFold ts (upto ts d a):=⟨_,rfl⟩
          rw [←hout] at hownV
          have hol:out.length≤500:=by rw [hout];exact fold_small hrt d a hd10 ha41
          have hval: ∀x,x∈out→ ∃t',ts[x.1]? =some t'∧x.2≤t'.length:=fun x hx=>fold_valid d a t ht hla x (hout▸hx)
          obtain ⟨-,A3,c3,rfl,hx3⟩:=Rx.of_own hownV
          have HownV:=Lib.hid hownV;have HBV:=Lib.hid hBV;have Hval:=Lib.hid hval;have Hout:=Lib.hid hout;have HX3:=Lib.hid hx3;have KG:=Lib.hid kg;have KR:=Lib.hid kr
          clear hownV hBV hval hout hx3 Hown kg kr c_kg c_kr hB
          generalize hkrb:wr.heap.size=krb at*
          go_loopg [7] out.length (fun k3 p wr=> ∃j:Nat,p= .int .i64 (j:Int)∧j+k3=out.length∧Hid (∀i x,i<j→out[i]? =some x→refLess ts x (d,a)=true)∧Below V.heap.size V wr)
          case atStart=>exact ⟨0,rfl,by omega,Lib.hid (fun i x hi=>absurd hi (by omega)),Below.refl _ _⟩
          case round=>
            obtain ⟨j,rfl,hk3,Hpre,hB2⟩:=hrel
            have hsz2:=hB2.size
            by_cases hj:j<out.length
            · obtain ⟨k3,rfl⟩: ∃k,gk=k+1:=⟨gk - 1,by omega⟩
              obtain ⟨x,hx⟩:=at_some hj
              obtain ⟨t1,ht1,hx2⟩:=Hval.out x (List.mem_of_getElem? hx)
              obtain ⟨g3,rfl,hg3,hc3⟩:=HX3.out (by omega)
              have c1:wr.cell? ⟨g3,j*2,none⟩=some (.int .i64 (x.1:Int)):=((hB2.cell (by exact hg3)).trans (hc3 _ (by omega))).trans (rowCells_at hx).1
              have c2:wr.cell? ⟨g3,j*2+1,none⟩=some (.int .i64 (x.2:Int)):=((hB2.cell (by exact hg3)).trans (hc3 _ (by omega))).trans (rowCells_at hx).2
              have ck:=cells_of (keep_blk hB2 KR.out)
              have l1:g3<wr.heap.size:=by omega
              have l2:=lt_of (keep_blk hB2 KR.out)
              have j1:decide ((j:Int)<(out.length:Int))=true:=by simpa using hj
              have j2:(j:Int)<(out.length:Int):=by omega
              have E5:=Lib.hid (step_wrap j 500 (by omega) (by omega))
              have hlen1:=H40.out x.1
              rw [getD_at ht1] at hlen1
              have hless:Hid (lessL (decide (x.1<d)) (t1.drop x.2) (t.drop a)=refLess ts x (d,a)):=Lib.hid (by unfold refLess;rw [getD_at ht1,getD_at ht])
              clear hc3
              go_wp2_with fail
              refine wp_region_noPanic ?_
              refine wp_region_held_drew (S:=fun v=>Below wr.heap.size wr v∧(wr.heap.size≤v.heap.size)∧ ∀b o,b<wr.heap.size→v.cell? ⟨b,o,none⟩=wr.cell? ⟨b,o,none⟩) (by kernel_rfl) (HeldB.start wr) (fun hHeld=> ?_)
              have hB_d:Below wr.heap.size wr wr.drew:=(Below.refl _ _).drew
              generalize wr.drew=wrd at hHeld hB_d⊢
              refine ta 0 hHeld ?_
              refine ta 1 hHeld ?_
              refine ta 2 hHeld ?_
              refine ta 3 hHeld ?_
              refine ta 4 hHeld ?_
              refine ta 5 hHeld ?_
              refine ta 6 hHeld ?_
              refine ta 7 hHeld ?_
              refine ta 8 hHeld ?_
              refine ta 9 hHeld ?_
              refine ta 10 hHeld ?_
              refine rd 11 rfl fun K hK=> ?_
              go_simp
              refine (less_calls _ ts x.1 x.2 d a t1 t ht1 hx2 ht hla (by omega) _ hless.out _ (HK.out.below (below_step (below_step HBV.out hB2) hB_d))).mono ?_
              rintro e6 W6 ⟨rfl,hb6⟩
              refine ho hK (HeldB.call hHeld hb6) fun hHeld=> ?_
              clear hK K
              have hBX:Below V.heap.size V W6:=below_step hB2 (below_step hB_d hb6)
              cases hR:refLess ts x (d,a) with
              | true=>
                have Hpre2:Hid (∀i y,i<j+1→out[i]? =some y→refLess ts y (d,a)=true):=Lib.hid (fun i y hi hy=>by
                  rcases Nat.lt_or_ge i j with h|h
                  · exact Hpre.out i y h hy
                  · obtain rfl:i=j:=by omega
                    rw [hx] at hy;cases hy;exact hR)
                refine ta 12 hHeld ?_
                refine wpAnyH_done (by kernel_rfl) ?_ _
                refine NoPanic.normal ?_
                clear c1 c2 ck hHeld Hpre
                go_wp2_with fail
                go_roundg k3
                case measure=>omega
                case rel=>exact ⟨j+1,by first|rfl|(rw [E5.out];rfl),by omega,Hpre2,hBX⟩
              | false=>
                have Hat:Hid (refAt ts out (d,a)=j):=Lib.hid (refAt_of (by omega) Hpre.out (fun y hy=>by rw [hx] at hy;cases hy;exact hR))
                refine ta 12 hHeld ?_
                refine wpAnyH_done (by kernel_rfl) ?_ _
                refine NoPanic.normal ?_
                clear c1 c2 ck hHeld Hpre hB_d hb6
                go_wp2_with fail
                have ownX:=own_below HownV.out hBX
                have krX:=keep_blk hBX KR.out
                have ckX:=cells_of krX
                have lkX:=lt_of krX
                have q0:out.length≤c3:=own_cap HownV.out
                have q1:j≤c3:=by omega
                have q2:j≤out.length:=by omega
                refine wp_region_noPanic ?_
                refine wp_region_held_drew (S:=fun v=>Below W6.heap.size W6 v∧(W6.heap.size≤v.heap.size)∧ ∀b o,b<W6.heap.size→v.cell? ⟨b,o,none⟩=W6.cell? ⟨b,o,none⟩) (by kernel_rfl) (HeldB.start W6) (fun hHeld=> ?_)
                have hB_d:Below W6.heap.size W6 W6.drew:=(Below.refl _ _).drew
                generalize W6.drew=W6d at hHeld hB_d⊢
                refine ta 0 hHeld ?_
                refine ta 1 hHeld ?_
                refine ta 2 hHeld ?_
                refine ta 4 hHeld ?_
                refine ta 7 hHeld ?_
                refine ta 8 hHeld ?_
                refine ta 9 hHeld ?_
                have ownD:=own_below ownX hB_d
                have hszX:=hBX.size
                have hszD:=hB_d.size
                skip
                refine wpAnyH_ready (rs:=[3,5]) (by kernel_rfl) (by simp) ?_
                refine ready_at rfl (fun K hK=> ?_) (ready_at rfl (fun K hK=> ?_) AllReadyH.nil)
                · refine step_moreN (by rfl) _ _ 131 (by rfl) (base:=W6.heap.size) (e:=136) (.agg #[.int .i64 0, .int .i64 0]) 2 16 (by omega) Tryz.underlying131 (by kernel_rfl) (by rfl) (v:= .slice none 0 0) (by rfl) (own_nil _ _ _ _) (by rfl) (by have:=(Rds.of_own (ownD)).part j q2;rw [rowCells_take] at this;exact this) (rowCells_one _) (nm:=j) (by omega) (by omega) (by omega) (hHeld.2.1) ?_
                  intro A4 c4 W7 hown7 hlow7 hkeep7
                  refine ho hK (HeldB.low hHeld hlow7) fun hHeld=> ?_
                  clear hK K
                  refine rd 5 rfl fun K hK=> ?_
                  go_simp
                  refine ho hK (HeldB.alloc hHeld _) fun hHeld=> ?_
                  clear hK K
                  refine rd 6 rfl fun K hK=> ?_
                  refine step_moreN (by rfl) _ _ 131 (by rfl) (base:=W6.heap.size) (e:=136) (.agg #[.int .i64 0, .int .i64 0]) 2 16 (by omega) Tryz.underlying131 (by kernel_rfl) (by rfl) (v:= .slice A4 j c4) (by rfl) (hown7.alloc _) (by rfl) (rds_one W7 #[.int .i64 (d:Int), .int .i64 (a:Int)] 136 2 rfl) (rowCells_one [(d,a)]) (nm:=j+1) (by omega) (by omega) (by omega) (hHeld.2.1) ?_
                  intro A5 c5 W8 hown8 hlow8 hkeep8
                  refine ho hK (HeldB.low hHeld hlow8) fun hHeld=> ?_
                  clear hK K
                  refine rd 10 rfl fun K hK=> ?_
                  refine step_moreN (by rfl) _ _ 131 (by rfl) (base:=W6.heap.size) (e:=136) (.agg #[.int .i64 0, .int .i64 0]) 2 16 (by omega) Tryz.underlying131 (by kernel_rfl) (by rfl) (v:= .slice A5 (j+1) c5) (by rfl) (hown8) (by rfl) (by have:=(Rds.of_own (own_below ownX hHeld.1)).behind (A':=if c3=j then some ⟨g3,0,none⟩ else some ⟨g3,j*2,none⟩) j (out.length - j) q2 (by omega) (fun h=>by first|(exfalso;omega)|(rw [if_neg (by omega)];simp [add_zero_off]));rw [rowCells_drop] at this;exact this) (rowCells_one _) (nm:=out.length+1) (by omega) (by omega) (by omega) (hHeld.2.1) ?_
                  intro A6 c6 W9 hown9 hlow9 hkeep9
                  refine ho hK (HeldB.low hHeld hlow9) fun hHeld=> ?_
                  clear hK K
                  have hfin:=hHeld.1
                  refine rd 11 rfl fun K hK=> ?_
                  go_simp
                  refine ho hK hHeld fun hHeld=> ?_
                  clear hK K
                  refine wpAnyH_done (by kernel_rfl) ?_ _
                  refine NoPanic.normal ?_
                  have HF:Hid (W9.ownsRow w.heap.size 136 2 (.slice A6 (out.length+1) c6) (refFold ts (upto ts d (a+1))).length (rowCells (refFold ts (upto ts d (a+1))))):=Lib.hid (by
                    rw [upto_snoc,refFold_snoc,←Hout.out,refIns_length]
                    unfold refIns
                    rw [Hat.out,rowCells_append,show (d,a)::out.drop j=[(d,a)]++out.drop j from rfl,rowCells_append,←List.append_assoc]
                    exact own_mono hown9 (by omega))
                  have HBF:=Lib.hid (below_step (below_step HBV.out hBX) hfin)
                  clear hown9 hlow9 hkeep9 hfin ownX ownD ckX
                  go_wp2_with fail
                  all_goals
                    go_roundg k2
                    case measure=>omega
                    case rel=>exact ⟨a+1,by first|rfl|(rw [E4.out];rfl),by omega,HF,HBF⟩
                · go_simp
                  refine ho hK (HeldB.alloc hHeld _) fun hHeld=> ?_
                  clear hK K
                  refine rd 3 rfl fun K hK=> ?_
                  refine step_moreN (by rfl) _ _ 131 (by rfl) (base:=W6.heap.size) (e:=136) (.agg #[.int .i64 0, .int .i64 0]) 2 16 (by omega) Tryz.underlying131 (by kernel_rfl) (by rfl) (v:= .slice none 0 0) (by rfl) (own_nil _ _ _ _) (by rfl) (by have:=(Rds.of_own (ownD.alloc (.cells #[.int .i64 (d:Int), .int .i64 (a:Int)] 136))).part j q2;rw [rowCells_take] at this;exact this) (rowCells_one _) (nm:=j) (by omega) (by omega) (by omega) (hHeld.2.1) ?_
                  intro A4 c4 W7 hown7 hlow7 hkeep7
                  refine ho hK (HeldB.low hHeld hlow7) fun hHeld=> ?_
                  clear hK K
                  refine rd 6 rfl fun K hK=> ?_
                  refine step_moreN (by rfl) _ _ 131 (by rfl) (base:=W6.heap.size) (e:=136) (.agg #[.int .i64 0, .int .i64 0]) 2 16 (by omega) Tryz.underlying131 (by kernel_rfl) (by rfl) (v:= .slice A4 j c4) (by rfl) (hown7) (by rfl) ((rds_one W6d #[.int .i64 (d:Int), .int .i64 (a:Int)] 136 2 rfl).below (hkeep7 _ (Nat.le_refl _) (by simp [Value.ownBlock]))) (rowCells_one [(d,a)]) (nm:=j+1) (by omega) (by omega) (by omega) (hHeld.2.1) ?_
                  intro A5 c5 W8 hown8 hlow8 hkeep8
                  refine ho hK (HeldB.low hHeld hlow8) fun hHeld=> ?_
                  clear hK K
                  refine rd 10 rfl fun K hK=> ?_
                  refine step_moreN (by rfl) _ _ 131 (by rfl) (base:=W6.heap.size) (e:=136) (.agg #[.int .i64 0, .int .i64 0]) 2 16 (by omega) Tryz.underlying131 (by kernel_rfl) (by rfl) (v:= .slice A5 (j+1) c5) (by rfl) (hown8) (by rfl) (by have:=(Rds.of_own (own_below ownX hHeld.1)).behind (A':=if c3=j then some ⟨g3,0,none⟩ else some ⟨g3,j*2,none⟩) j (out.length - j) q2 (by omega) (fun h=>by first|(exfalso;omega)|(rw [if_neg (by omega)];simp [add_zero_off]));rw [rowCells_drop] at this;exact this) (rowCells_one _) (nm:=out.length+1) (by omega) (by omega) (by omega) (hHeld.2.1) ?_
                  intro A6 c6 W9 hown9 hlow9 hkeep9
                  refine ho hK (HeldB.low hHeld hlow9) fun hHeld=> ?_
                  clear hK K
                  have hfin:=hHeld.1
                  refine rd 11 rfl fun K hK=> ?_
                  go_simp
                  refine ho hK hHeld fun hHeld=> ?_
                  clear hK K
                  refine wpAnyH_done (by kernel_rfl) ?_ _
                  refine NoPanic.normal ?_
                  have HF:Hid (W9.ownsRow w.heap.size 136 2 (.slice A6 (out.length+1) c6) (refFold ts (upto ts d (a+1))).length (rowCells (refFold ts (upto ts d (a+1))))):=Lib.hid (by
                    rw [upto_snoc,refFold_snoc,←Hout.out,refIns_length]
                    unfold refIns
                    rw [Hat.out,rowCells_append,show (d,a)::out.drop j=[(d,a)]++out.drop j from rfl,rowCells_append,←List.append_assoc]
                    exact own_mono hown9 (by omega))
                  have HBF:=Lib.hid (below_step (below_step HBV.out hBX) hfin)
                  clear hown9 hlow9 hkeep9 hfin ownX ownD ckX
                  go_wp2_with fail
                  all_goals
                    go_roundg k2
                    case measure=>omega
                    case rel=>exact ⟨a+1,by first|rfl|(rw [E4.out];rfl),by omega,HF,HBF⟩
            · obtain rfl:j=out.length:=by omega
              have j1:decide ((out.length:Int)<(out.length:Int))=false:=by simp
              have Hat:Hid (refAt ts out (d,a)=out.length):=Lib.hid (refAt_of (Nat.le_refl _) Hpre.out (fun y hy=>by simp at hy))
              clear Hpre
              go_wp2_with fail
              refine wp_region_noPanic ?_
              refine wp_region_held_drew (S:=fun v=>Below wr.heap.size wr v∧(wr.heap.size≤v.heap.size)∧ ∀b o,b<wr.heap.size→v.cell? ⟨b,o,none⟩=wr.cell? ⟨b,o,none⟩) (by kernel_rfl) (HeldB.start wr) (fun hHeld=> ?_)
              have hB_d:Below wr.heap.size wr wr.drew:=(Below.refl _ _).drew
              generalize wr.drew=wrd at hHeld hB_d⊢
              refine ta 0 hHeld ?_
              refine ta 1 hHeld ?_
              refine ta 2 hHeld ?_
              refine ta 3 hHeld ?_
              refine ta 4 hHeld ?_
              refine tno 5 hHeld ?_
              refine tno 6 hHeld ?_
              refine tno 7 hHeld ?_
              refine tno 8 hHeld ?_
              refine tno 9 hHeld ?_
              refine tno 10 hHeld ?_
              refine tno 11 hHeld ?_
              refine ta 12 hHeld ?_
              refine wpAnyH_done (by kernel_rfl) ?_ _
              refine NoPanic.normal ?_
              have hBX:Below V.heap.size V wrd:=below_step hB2 hB_d
              clear hHeld hB_d
              go_wp2_with fail
              have ownX:=own_below HownV.out hBX
              have krX:=keep_blk hBX KR.out
              have ckX:=cells_of krX
              have lkX:=lt_of krX
              have q0:out.length≤c3:=own_cap HownV.out
              have q1:out.length≤c3:=by omega
              have q2:out.length≤out.length:=by omega
              refine wp_region_noPanic ?_
              refine wp_region_held_drew (S:=fun v=>Below wrd.heap.size wrd v∧(wrd.heap.size≤v.heap.size)∧ ∀b o,b<wrd.heap.size→v.cell? ⟨b,o,none⟩=wrd.cell? ⟨b,o,none⟩) (by kernel_rfl) (HeldB.start wrd) (fun hHeld=> ?_)
              have hB_d:Below wrd.heap.size wrd wrd.drew:=(Below.refl _ _).drew
              generalize wrd.drew=wrdd at hHeld hB_d⊢
              refine ta 0 hHeld ?_
              refine ta 1 hHeld ?_
              refine ta 2 hHeld ?_
              refine ta 4 hHeld ?_
              refine ta 7 hHeld ?_
              refine ta 8 hHeld ?_
              refine ta 9 hHeld ?_
              have ownD:=own_below ownX hB_d
              have hszX:=hBX.size
              have hszD:=hB_d.size
              skip
              refine wpAnyH_ready (rs:=[3,5]) (by kernel_rfl) (by simp) ?_
              refine ready_at rfl (fun K hK=> ?_) (ready_at rfl (fun K hK=> ?_) AllReadyH.nil)
              · refine step_moreN (by rfl) _ _ 131 (by rfl) (base:=wrd.heap.size) (e:=136) (.agg #[.int .i64 0, .int .i64 0]) 2 16 (by omega) Tryz.underlying131 (by kernel_rfl) (by rfl) (v:= .slice none 0 0) (by rfl) (own_nil _ _ _ _) (by rfl) (by have:=(Rds.of_own (ownD)).part out.length q2;rw [rowCells_take] at this;exact this) (rowCells_one _) (nm:=out.length) (by omega) (by omega) (by omega) (hHeld.2.1) ?_
                intro A4 c4 W7 hown7 hlow7 hkeep7
                refine ho hK (HeldB.low hHeld hlow7) fun hHeld=> ?_
                clear hK K
                refine rd 5 rfl fun K hK=> ?_
                go_simp
                refine ho hK (HeldB.alloc hHeld _) fun hHeld=> ?_
                clear hK K
                refine rd 6 rfl fun K hK=> ?_
                refine step_moreN (by rfl) _ _ 131 (by rfl) (base:=wrd.heap.size) (e:=136) (.agg #[.int .i64 0, .int .i64 0]) 2 16 (by omega) Tryz.underlying131 (by kernel_rfl) (by rfl) (v:= .slice A4 out.length c4) (by rfl) (hown7.alloc _) (by rfl) (rds_one W7 #[.int .i64 (d:Int), .int .i64 (a:Int)] 136 2 rfl) (rowCells_one [(d,a)]) (nm:=out.length+1) (by omega) (by omega) (by omega) (hHeld.2.1) ?_
                intro A5 c5 W8 hown8 hlow8 hkeep8
                refine ho hK (HeldB.low hHeld hlow8) fun hHeld=> ?_
                clear hK K
                refine rd 10 rfl fun K hK=> ?_
                refine step_moreN (by rfl) _ _ 131 (by rfl) (base:=wrd.heap.size) (e:=136) (.agg #[.int .i64 0, .int .i64 0]) 2 16 (by omega) Tryz.underlying131 (by kernel_rfl) (by rfl) (v:= .slice A5 (out.length+1) c5) (by rfl) (hown8) (by rfl) (by have:=(Rds.of_own (own_below ownX hHeld.1)).behind (A':=if c3=out.length then A3 else A3.map (·.add (out.length*2))) out.length 0 q2 (by omega) (fun h=>by first|(exfalso;omega)|(rw [if_neg (by omega)];simp [add_zero_off]));rw [rowCells_drop] at this;exact this) (rowCells_one _) (nm:=out.length+1) (by omega) (by omega) (by omega) (hHeld.2.1) ?_
                intro A6 c6 W9 hown9 hlow9 hkeep9
                refine ho hK (HeldB.low hHeld hlow9) fun hHeld=> ?_
                clear hK K
                have hfin:=hHeld.1
                refine rd 11 rfl fun K hK=> ?_
                go_simp
                refine ho hK hHeld fun hHeld=> ?_
                clear hK K
                refine wpAnyH_done (by kernel_rfl) ?_ _
                refine NoPanic.normal ?_
                have HF:Hid (W9.ownsRow w.heap.size 136 2 (.slice A6 (out.length+1) c6) (refFold ts (upto ts d (a+1))).length (rowCells (refFold ts (upto ts d (a+1))))):=Lib.hid (by
                  rw [upto_snoc,refFold_snoc,←Hout.out,refIns_length]
                  unfold refIns
                  rw [Hat.out,rowCells_append,show (d,a)::out.drop out.length=[(d,a)]++out.drop out.length from rfl,rowCells_append,←List.append_assoc]
                  exact own_mono hown9 (by omega))
                have HBF:=Lib.hid (below_step (below_step HBV.out hBX) hfin)
                clear hown9 hlow9 hkeep9 hfin ownX ownD ckX
                go_wp2_with fail
                all_goals
                  go_roundg k2
                  case measure=>omega
                  case rel=>exact ⟨a+1,by first|rfl|(rw [E4.out];rfl),by omega,HF,HBF⟩
              · go_simp
                refine ho hK (HeldB.alloc hHeld _) fun hHeld=> ?_
                clear hK K
                refine rd 3 rfl fun K hK=> ?_
                refine step_moreN (by rfl) _ _ 131 (by rfl) (base:=wrd.heap.size) (e:=136) (.agg #[.int .i64 0, .int .i64 0]) 2 16 (by omega) Tryz.underlying131 (by kernel_rfl) (by rfl) (v:= .slice none 0 0) (by rfl) (own_nil _ _ _ _) (by rfl) (by have:=(Rds.of_own (ownD.alloc (.cells #[.int .i64 (d:Int), .int .i64 (a:Int)] 136))).part out.length q2;rw [rowCells_take] at this;exact this) (rowCells_one _) (nm:=out.length) (by omega) (by omega) (by omega) (hHeld.2.1) ?_
                intro A4 c4 W7 hown7 hlow7 hkeep7
                refine ho hK (HeldB.low hHeld hlow7) fun hHeld=> ?_
                clear hK K
                refine rd 6 rfl fun K hK=> ?_
                refine step_moreN (by rfl) _ _ 131 (by rfl) (base:=wrd.heap.size) (e:=136) (.agg #[.int .i64 0, .int .i64 0]) 2 16 (by omega) Tryz.underlying131 (by kernel_rfl) (by rfl) (v:= .slice A4 out.length c4) (by rfl) (hown7) (by rfl) ((rds_one wrdd #[.int .i64 (d:Int), .int .i64 (a:Int)] 136 2 rfl).below (hkeep7 _ (Nat.le_refl _) (by simp [Value.ownBlock]))) (rowCells_one [(d,a)]) (nm:=out.length+1) (by omega) (by omega) (by omega) (hHeld.2.1) ?_
                intro A5 c5 W8 hown8 hlow8 hkeep8
                refine ho hK (HeldB.low hHeld hlow8) fun hHeld=> ?_
                clear hK K
                refine rd 10 rfl fun K hK=> ?_
                refine step_moreN (by rfl) _ _ 131 (by rfl) (base:=wrd.heap.size) (e:=136) (.agg #[.int .i64 0, .int .i64 0]) 2 16 (by omega) Tryz.underlying131 (by kernel_rfl) (by rfl) (v:= .slice A5 (out.length+1) c5) (by rfl) (hown8) (by rfl) (by have:=(Rds.of_own (own_below ownX hHeld.1)).behind (A':=if c3=out.length then A3 else A3.map (·.add (out.length*2))) out.length 0 q2 (by omega) (fun h=>by first|(exfalso;omega)|(rw [if_neg (by omega)];simp [add_zero_off]));rw [rowCells_drop] at this;exact this) (rowCells_one _) (nm:=out.length+1) (by omega) (by omega) (by omega) (hHeld.2.1) ?_
                intro A6 c6 W9 hown9 hlow9 hkeep9
                refine ho hK (HeldB.low hHeld hlow9) fun hHeld=> ?_
                clear hK K
                have hfin:=hHeld.1
                refine rd 11 rfl fun K hK=> ?_
                go_simp
                refine ho hK hHeld fun hHeld=> ?_
                clear hK K
                refine wpAnyH_done (by kernel_rfl) ?_ _
                refine NoPanic.normal ?_
                have HF:Hid (W9.ownsRow w.heap.size 136 2 (.slice A6 (out.length+1) c6) (refFold ts (upto ts d (a+1))).length (rowCells (refFold ts (upto ts d (a+1))))):=Lib.hid (by
                  rw [upto_snoc,refFold_snoc,←Hout.out,refIns_length]
                  unfold refIns
                  rw [Hat.out,rowCells_append,show (d,a)::out.drop out.length=[(d,a)]++out.drop out.length from rfl,rowCells_append,←List.append_assoc]
                  exact own_mono hown9 (by omega))
                have HBF:=Lib.hid (below_step (below_step HBV.out hBX) hfin)
                clear hown9 hlow9 hkeep9 hfin ownX ownD ckX
                go_wp2_with fail
                all_goals
                  go_roundg k2
                  case measure=>omega
                  case rel=>exact ⟨a+1,by first|rfl|(rw [E4.out];rfl),by omega,HF,HBF⟩
        · obtain rfl:a=t.length+1:=by omega
          have m1:decide (((t.length+1:Nat):Int)≤(t.length:Int))=false:=by simp;omega
          have hown:=Hown.out
          rw [←hgd,upto_next] at hown
          have HO:=Lib.hid hown;clear hown Hown
          go_wp2_with fail
          go_roundg k
          case measure=>omega
          case rel=>exact ⟨d+1,by first|rfl|(rw [E3.out];rfl),by omega,HO,HB⟩
    · have hi:d=ts.length:=by omega
      have n1:decide ((d:Int)<(ts.length:Int))=false:=by simpa using hlt
      have hown:=Hown.out
      rw [hi] at hown
      have HO:=Lib.hid hown;clear hown Hown
      go_wp2_with fail
      go_ret
      exact ⟨u3,rfl,HO.out,HB.out⟩
end
section
open Go.RowKit
attribute [local go_sem ↓] Go.wp_at_zero Go.wp_at_succ
attribute [local go_sem] str_len
theorem sorted_calls (v : Value) (ts : List (List UInt8)) (hn : ts.length ≤ 50000) (w : World) (h : Rk w 1 v ts.length (ts.map strOf)) :
    Calls Tryz.prog 75 #[v] w fun e w'=> ∃v',e= .returned v'∧w'.ownsRow w.heap.size 136 2 v' (refSorted ts).length (rowCells (refSorted ts))∧Below w.heap.size w w':=by
  unfold refSorted
  cases hrt:refRight ts with
  | true=>rw [if_pos rfl];exact sorted_walk v ts hrt w h
  | false=>
    rw [if_neg (by decide)]
    have HK:=Lib.hid h
    obtain ⟨h1,A,cap,rfl,h2⟩:=h
    clear h1 h2
    go_enter Tryz.func75,Tryz.ntmps75
    go_wp2_with fail
    refine cg fun V0 hV_V0=> ?_
    have hB:=Below.refl w.heap.size w
    refine neb0 hV_V0 hB ?_;clear hB;intro z_V0 hB
    clear hV_V0
    refine rC (rright_calls _ ts hn _ (HK.out.below hB)) fun W0 hb_W0=> ?_
    refine beb0 hb_W0 hB ?_;clear hb_W0 hB;intro z_W0 hB
    rw [hrt]
    go_wp2_with fail
    go_ret
    exact ⟨_,rfl,own_nil _ _ _ _,hB⟩
def intCells (l:List Int):List Value:=l.map fun x=> .int .i64 x
theorem step_id (j n:Nat) (h:j≤n) (hn:n≤50000):wrap64 (j:Int)=(j:Int):=IntWalk.wrap64_in _ (by omega)
theorem symbols_calls (v : Value) (ts : List (List UInt8)) (hn : ts.length ≤ 50000) (hn2 : ∀ t, t ∈ ts → t.length ≤ 50000) (w : World) (h : Rk w 1 v ts.length (ts.map strOf)) :
    Calls Tryz.prog 42 #[v] w fun e w'=> ∃v',e= .returned v'∧w'.ownsRow w.heap.size 3 1 v' (refSorted ts).length (intCells ((refSorted ts).map (symOf ts)))∧Below w.heap.size w w':=by
  obtain ⟨R,hR⟩: ∃R,R=refSorted ts:=⟨_,rfl⟩
  rw [←hR]
  have HK:=Lib.hid h
  obtain ⟨h1,A,cap,rfl,h2⟩:=h
  have hval: ∀x,x∈R→ ∃t,ts[x.1]? =some t∧x.2≤t.length:=fun x hx=>sorted_valid (hR▸hx)
  have hsm:R.length≤500:=by rw [hR];exact sorted_small ts
  have Hval:=Lib.hid hval;have HR:=Lib.hid hR
  clear h1 h2 hval hR
  go_enter Tryz.func42,Tryz.ntmps42
  go_wp2_with fail
  refine cg fun V0 hV_V0=> ?_
  have hB:=Below.refl w.heap.size w
  refine neb0 hV_V0 hB ?_;clear hB;intro z_V0 hB
  clear hV_V0
  refine (sorted_calls _ ts hn _ (HK.out.below hB)).mono ?_
  rintro e1 W1 ⟨v1,rfl,hown1,hb1⟩
  have hB1:=below_step hB hb1
  rw [←HR.out] at hown1
  obtain ⟨-,A1,c1,rfl,hx1⟩:=Rx.of_own hown1
  have HX:=Lib.hid (Rk.of_own hown1);have HB1:=Lib.hid hB1
  have hsz1:=hB1.size
  clear hown1 hb1 hB hB1 hx1
  go_wp2_with fail
  go_loopg [4,5] R.length (fun k p q wr=> ∃i:Nat,q= .int .i64 (i:Int)∧i+k=R.length∧Hid (wr.ownsRow W1.heap.size 3 1 p i (intCells ((R.take i).map (symOf ts))))∧Hid (Below W1.heap.size W1 wr))
  case atStart=>exact ⟨0,rfl,by omega,Lib.hid (own_nil _ _ _ _),Lib.hid (Below.refl _ _)⟩
  case round=>
    obtain ⟨i,rfl,hk,Hown,HB⟩:=hrel
    by_cases hlt:i<R.length
    · obtain ⟨k,rfl⟩: ∃k,gk=k+1:=⟨gk - 1,by omega⟩
      obtain ⟨x,hx⟩:=at_some hlt
      obtain ⟨t,ht,hxt⟩:=Hval.out x (List.mem_of_getElem? hx)
      obtain ⟨-,A',cap',hv,h2⟩:=HX.out
      obtain ⟨g1,cs1,T1,rfl,kg1',hcs1⟩:=h2 (by omega)
      have kg1:=keep_blk HB.out kg1'
      have w1a:=cells_of kg1'
      have w1l:=lt_of kg1'
      obtain ⟨rfl, -,rfl⟩:=Value.slice.inj hv
      have c1a:cs1[i*2]? =some (.int .i64 (x.1:Int)):=(hcs1 _ (by omega)).trans (rowCells_at hx).1
      have c1b:cs1[i*2+1]? =some (.int .i64 (x.2:Int)):=(hcs1 _ (by omega)).trans (rowCells_at hx).2
      clear h2 hv hcs1
      have htake:Hid (intCells ((R.take (i+1)).map (symOf ts))=intCells ((R.take i).map (symOf ts))++[.int .i64 (symOf ts x)]):=Lib.hid (by
        unfold intCells
        rw [List.take_succ_eq_append_getElem hlt,List.map_append,List.map_append,(List.getElem_eq_iff hlt).2 hx];rfl)
      have n1:decide ((i:Int)<(R.length:Int))=true:=by simpa using hlt
      have n2:(i:Int)<(R.length:Int):=by omega
      have E3:=Lib.hid (step_wrap i 500 (by omega) (by omega))
      have hw1:=HB.out.size
      by_cases h0:x.2=0
      · have hs:Hid (symOf ts x=0):=Lib.hid (by unfold symOf;rw [if_pos h0])
        have d0:((x.2:Int)==0)=true:=by rw [h0];rfl
        clear h0 hxt
        have c_kg1:=f3 kg1;have l_kg1wr:=lt_of kg1
        go_wp2_with (at_builtin;refine wpList_push _ (by rfl) _ _ 43 (by rfl) (W1.heap.size) 3 (.int .i64 0) 1 8 Tryz.underlying43 (by kernel_rfl) (by rfl) (by omega) _ _ _ (by rfl) Hown.out _ (by rfl) (by rfl) (by simp [Value.oneCell']) (by unfold maxLen;omega) (by omega) (by omega) ?_;intro g_W c_W W5 hown_W hlow_W hlt_W)
        go_wp2_with fail
        go_roundg k
        case measure=>omega
        case rel=>exact ⟨i+1,by first|rfl|(rw [E3.out];rfl),by omega,Lib.hid (by rw [htake.out,hs.out];exact hown_W),Lib.hid (low_step HB.out (Nat.le_refl _) hlow_W)⟩
      · obtain ⟨j,hj⟩: ∃j:Nat,x.2=j+1:=⟨x.2 - 1,by omega⟩
        obtain ⟨b,hb⟩:=at_some (show j<t.length by omega)
        have htl:=hn2 t (List.mem_of_getElem? ht)
        have hs:Hid (symOf ts x=(b.toNat:Int)+1):=Lib.hid (by unfold symOf;rw [if_neg h0,getD_at ht,hj];simp [List.getD,hb])
        have d0:((x.2:Int)==0)=false:=by rw [beq_eq_false_iff_ne];omega
        obtain ⟨hd, -⟩:=List.getElem?_eq_some_iff.1 ht
        obtain ⟨-,A2,cap2,hv2,h3⟩:=HK.out.below HB1.out
        obtain ⟨g2,cs2,T2,rfl,kg2',hcs2⟩:=h3 (by omega)
        have kg2:=keep_blk HB.out kg2'
        have w2a:=cells_of kg2'
        have w2l:=lt_of kg2'
        obtain ⟨rfl, -,rfl⟩:=Value.slice.inj hv2
        have c2a:cs2[x.1]? =some (strOf t):=by rw [hcs2 _ (by omega),List.getElem?_map,ht];rfl
        have n3:(x.1:Int)<(ts.length:Int):=by omega
        have hix:=str_index t j b hb
        have e6:Hid (wrap64 ((x.2:Int) - 1)=(j:Int)):=Lib.hid (by rw [hj,IntWalk.wrap64_in _ (by omega)];omega)
        have hb8:=b.toNat_lt
        have e7:wrap64 ((b.toNat:Int)+1)=(b.toNat:Int)+1:=IntWalk.wrap64_in _ (by omega)
        have E7:=Lib.hid e7;clear e7
        have hxj:(x.2:Int)=(j:Int)+1:=by omega
        rw [hxj] at c1b d0
        have e9:wrap64 (j:Int)=(j:Int):=step_id j t.length (by omega) (by omega)
        have E9:=Lib.hid e9;clear e9
        have E10:=Lib.hid (step_id b.toNat 256 (by omega) (by omega))
        have e8:wrap64 ((j:Int)+1 - 1)=(j:Int):=by rw [show (j:Int)+1 - 1=(j:Int) by omega];exact step_id j t.length (by omega) (by omega)
        clear h0 hxt h3 hv2 hcs2 hb e6 hxj
        have c_kg1:=f3 kg1;have l_kg1wr:=lt_of kg1
        have c_kg2:=f3 kg2;have l_kg2wr:=lt_of kg2
        go_wp2_with fail
        refine wp_region_noPanic ?_
        refine wp_region_held_drew (S:=fun v=>Below W1.heap.size W1 v∧(W1.heap.size≤v.heap.size)∧ ∀b o,b<W1.heap.size→v.cell? ⟨b,o,none⟩=W1.cell? ⟨b,o,none⟩) (by kernel_rfl) (HeldB.of HB.out.drew) (fun hHeld=> ?_)
        have hB_d:Below wr.heap.size wr wr.drew:=(Below.refl _ _).drew
        generalize wr.drew=wrd at hHeld hB_d⊢
        have e9:=E9.out
        have e7:=E7.out
        have e10:wrap64 (b.toNat:Int)=(b.toNat:Int):=E10.out
        refine ta 0 hHeld ?_
        refine ta 1 hHeld ?_
        refine ta 2 hHeld ?_
        refine ta 3 hHeld ?_
        refine ta 4 hHeld ?_
        refine ta 5 hHeld ?_
        refine ta 6 hHeld ?_
        refine ta 7 hHeld ?_
        refine ta 8 hHeld ?_
        refine ta 9 hHeld ?_
        refine ta 10 hHeld ?_
        refine ta 11 hHeld ?_
        refine ta 12 hHeld ?_
        refine ta 13 hHeld ?_
        refine ta 14 hHeld ?_
        refine ta 15 hHeld ?_
        refine ta 16 hHeld ?_
        refine ta 17 hHeld ?_
        simp only [e7]
        clear e7 e8 e9 e10
        refine rd 18 rfl fun K hK=> ?_
        go_simp
        refine ho hK (HeldB.alloc hHeld _) fun hHeld=> ?_
        clear hK K
        refine rd 19 rfl fun K hK=> ?_
        refine step_moreN (by rfl) _ _ 43 (by rfl) (base:=W1.heap.size) (e:=3) (.int .i64 0) 1 8 (by omega) Tryz.underlying43 (by kernel_rfl) (by rfl) (v:=u4) (by rfl) ((own_below Hown.out hB_d).alloc _) (by rfl) (rds_one wrd #[.int .i64 ((b.toNat:Int)+1)] 3 1 rfl) (by simp [Value.oneCell']) (nm:=i+1) rfl (by omega) (by omega) (by rw [siz_alloc];have:=hB_d.size;omega) ?_
        intro A5 c5 W8 hown8 hlow8 hkeep8
        have HB8:=Lib.hid (low_step (hHeld.1) (Nat.le_refl _) hlow8)
        refine ho hK (HeldB.of HB8.out) fun hHeld=> ?_
        clear hK K
        refine rd 20 rfl fun K hK=> ?_
        go_simp
        refine ho hK hHeld fun hHeld=> ?_
        clear hK K
        refine wpAnyH_done (by kernel_rfl) ?_ _
        refine NoPanic.normal ?_
        have HO8:Hid (W8.ownsRow W1.heap.size 3 1 (.slice A5 (i+1) c5) (i+1) (intCells ((R.take (i+1)).map (symOf ts)))):=Lib.hid (by rw [htake.out,hs.out];exact hown8)
        clear hown8 hlow8 hkeep8 w1a w2a hHeld
        go_wp2_with fail
        go_roundg k
        case measure=>omega
        case rel=>exact ⟨i+1,by first|rfl|(rw [E3.out];rfl),by omega,HO8,HB8⟩
    · have hi:i=R.length:=by omega
      have n1:decide ((i:Int)<(R.length:Int))=false:=by simpa using hlt
      have hown:=Hown.out
      rw [hi,List.take_length] at hown
      have HO:=Lib.hid (own_mono hown hsz1);clear hown Hown
      have HBF:=Lib.hid (below_step HB1.out HB.out)
      go_wp2_with fail
      go_ret
      exact ⟨u4,rfl,HO.out,HBF.out⟩
end
section
open Go.RowKit
attribute [local go_sem ↓] Go.wp_at_zero Go.wp_at_succ
attribute [local go_sem] str_len
variable {ap : Value} {s : Ar} {O : Nat → Prop}
theorem cell_same {w w':World} {a:Addr} (h:w'.heap[a.block]? =w.heap[a.block]?):w'.cell? a=w.cell? a:=by
 unfold World.cell?
 rw [h]
theorem Rd2.fr {w w':World} {X O O':Nat→Prop} {ad:Addr} {cap:Nat} {ds:List (Int×List UInt8)} (h:Rd2 w (.slice (some ad) ds.length cap) ds) (hF:Fr X O O' w w') (h1: ¬O ad.block) (h2: ¬X ad.block):Rd2 w' (.slice (some ad) ds.length cap) ds:=by
 obtain ⟨A,c,hv,hc⟩:=h
 obtain ⟨rfl, -,rfl⟩:=Value.slice.inj hv
 refine ⟨_,_,rfl,fun hn=> ?_⟩
 obtain ⟨ad',ha,hlt,hc⟩:=hc hn
 obtain rfl:=Option.some.inj ha
 have hb:=hF.block _ hlt h1 h2
 refine ⟨ad,rfl,Nat.lt_of_lt_of_le hlt hF.size,fun i d hd=> ?_⟩
 obtain ⟨c0,c1,c2⟩:=hc i d hd
 have hb':w'.heap[(ad.add (i*2)).block]? =w.heap[(ad.add (i*2)).block]? :=by rw [block_of_add];exact hb
 exact ⟨Nat.lt_of_lt_of_le c0 hF.size,(cell_same hb').trans c1,(cell_same (by exact hb')).trans c2⟩
end
section
open Go.RowKit
attribute [local go_sem ↓] Go.wp_at_zero Go.wp_at_succ
attribute [local go_sem] str_len
structure Told (s:Ar) (root:Int) (ds:Docs):Prop where
  text: ∀id,pText s root id=some (match placeD ds id with|none=>([],false)|some k=>((ds.getD k (0,[])).2,true))
  all:lAll s (vOf s root).table=some (docsM ds)
  len:lLen s (vOf s root).table≤50000
  rows:vRows s root=tot ds+ds.length
  docs:vDocs s root=ds.length
theorem VR.told {s:Ar} {H:List Int} (hI:Inv s H) {h:Int} {ds:Docs} {rate:Int} (hv:VR s h ds rate) (hR:Right ds):Told s h ds:=by
  have hl:=hR.len
  refine ⟨hv.text hI hR,hv.all hI (by omega),?_,by rw [hv.rows hI (by omega),rows_tot hR];omega,hv.docs hI (by omega)⟩
  rw [(hv.parts hI (by omega)).2.2.2.1.len hI];unfold docsM;simp;omega
theorem placeD_at {ds:Docs} (h:Right ds) {j:Nat} {d:Int×List UInt8} (hd:ds[j]? =some d):placeD ds d.1=some j:=by
  obtain ⟨hj,rfl⟩:=List.getElem?_eq_some_iff.1 hd
  refine List.findIdx?_eq_some_iff_getElem.2 ⟨hj,by simp,fun i hi=> ?_⟩
  have:=List.pairwise_iff_getElem.1 h.nodup i j (by simp;omega) (by simp;omega) hi
  simpa using this
theorem Told.at {s:Ar} {root:Int} {ds:Docs} (t:Told s root ds) (h:Right ds) {j:Nat} {d:Int×List UInt8} (hd:ds[j]? =some d):pText s root d.1=some (d.2,true):=by
  rw [t.text,placeD_at h hd]
  simp [List.getD,hd]
variable {ap : Value} {O : Nat → Prop}
theorem bldnil_calls (q : Option Addr) (rate : Int) (A : Option Addr) (n cap : Nat) (hn : ((n : Int) == 0) = true) (w : World) :
    Calls Tryz.prog 17 #[.pointer q, .int .i64 rate, .slice A n cap] w fun e w'=>e= .returned (.tuple #[.int .i64 0, .bool true])∧Below w.heap.size w w':=by
  go_enter Tryz.func17,Tryz.ntmps17
  go_wp2_with fail
  go_ret2
  exact ⟨rfl,(Below.refl w.heap.size w).alloc (Nat.le_refl _) _⟩
end
section
open Go.RowKit Go.ChangeShapes Go.WideShapes Go.Deep
section
variable {H : Type} {enc : TypeId × Value → H} {P : Program} {w : World} {base : Nat} {spare : Nat → Bool} {held : Bool}
theorem open_slice_fields {t e : TypeId} {fs : Array Field} {fuel : Nat} {cs : List Value} {x : DataW H × List MemPlace} (ht : P.underlying t = some (.slice e)) (he : P.underlying e = some (.struct fs))
    (hone:oneCellFields P fs=true) (hC:P.cellsOf e=fs.size) (h:DataW.trod enc P w base spare held fuel t cs=some x):
    (cs=[.slice none 0 0]∧x=(.nil,[]))∨
    ∃(a:Addr) (len cap m:Nat) (D:Nat→DataW H) (Pl:Nat→List MemPlace),cs=[.slice (some a) len cap]∧base≤a.block∧len≤cap∧cap≤maxLen∧m=(if spare a.block then cap else len)∧
      x=(.slice ((List.range len).map D) ((List.range (m - len)).map fun j=>D (len+j)),MemPlace.row a (m*fs.size)++(List.range m).flatMap Pl)∧
      ∀i,i<m→ ∃(ys:List (DataW H×List MemPlace)) (n:Nat),D i= .agg (ys.map (·.1))∧Pl i=ys.flatMap (·.2)∧ys.length=fs.size∧
        ∀(j:Nat) (f:Field),fs[j]? =some f→ ∃(v:Value) (y:DataW H×List MemPlace),w.cell? (a.add (i*fs.size+j))=some v∧ys[j]? =some y∧DataW.trod enc P w base spare held n f.type [v]=some y:=by
  rcases open_slice ht h with h0|⟨a,len,cap,m,n,D,Pl,hcs,hb,hl,hm,hmm,hx,hi⟩
  · exact .inl h0
  · refine .inr ⟨a,len,cap,m,D,Pl,hcs,hb,hl,hm,hmm,by rw [hC] at hx;exact hx,fun i him=> ?_⟩
    obtain ⟨cs',hc,ht'⟩:=hi i him
    rw [hC] at hc
    obtain ⟨ys,n',hn',hy,hlen,hyl,hf⟩:=DataW.trod_struct he ht'
    obtain ⟨_,hcl,hat⟩:=World.cells?_some hc
    simp only [Prod.mk.injEq] at hy
    refine ⟨ys,n',hy.1,hy.2,hyl,fun j f hj=> ?_⟩
    obtain ⟨ho,hk⟩:=hone_of hone j f hj
    have hjl:j<fs.size:=(Array.getElem?_eq_some_iff.1 hj).1
    have hcell:=hat j hjl
    have hv:cs'[j]? =some (cs'[j]'(by omega)):=List.getElem?_eq_getElem (by omega)
    have h1:=hf j f hj
    rw [ho,hk] at h1
    have hone':(cs'.drop j).take 1=[cs'[j]'(by omega)]:=by
      rw [List.drop_eq_getElem_cons (by omega)]
      rfl
    rw [hone'] at h1
    have hys:ys[j]? =some (ys[j]'(by omega)):=List.getElem?_eq_getElem (by omega)
    refine ⟨_,_,?_,hys,h1.trans hys⟩
    rw [←Go.Deep.add_add,hcell,hv]
end
def IdOk (ds:List (Int×List UInt8)):Prop:= ∀d∈ds,(Lit.int .i64 d.1).wf=true
theorem str_of (s:ByteArray):Value.string s=strOf s.data.toList:=by unfold strOf;cases s;rfl
theorem add_one (a:Addr) (n:Nat):(⟨(a.add n).block,(a.add n).off+1,none⟩:Addr)=a.add (n+1):=by
  unfold Addr.add
  rw [if_neg (by omega: ¬n+1=0)]
  split
  · rename_i h;subst h;rfl
  · rfl
theorem read_docs {H : Type} {enc : TypeId × Value → H} {P : Program} {w : World} {held : Bool} {t e : TypeId} {f0 f1 : Field} {A : Option Addr} {len cap : Nat} {d : DataW H} {p : List MemPlace}
    (ht:P.underlying t=some (.slice e)) (he:P.underlying e=some (.struct #[f0,f1])) (hone:oneCellFields P #[f0,f1]=true) (hC:P.cellsOf e=2) (h0:P.underlying f0.type=some (.int .i64)) (h1:P.underlying f1.type=some .string)
    (h:DataW.Trod enc P w 0 (fun _=>true) held t (.slice A len cap) d p): ∃ds:List (Int×List UInt8),ds.length=len∧ds.length≤maxLen∧Rd2 w (.slice A len cap) ds∧IdOk ds:=by
  obtain ⟨m,hm⟩:=h
  have hlt:=DataW.trod_lt m _ _ _ hm
  simp only [Value.cells] at hm
  rcases open_slice_fields ht he hone hC hm with ⟨hc, -⟩|⟨a,l',c',m',D,Pl,hc, -,hl,hcm,hmm,hx,hi⟩
  · simp only [List.cons.injEq,Value.slice.injEq,and_true] at hc
    obtain ⟨rfl,rfl,rfl⟩:=hc
    exact ⟨[],rfl,by simp,⟨none,0,rfl,fun h=>absurd h (by simp)⟩,fun d hd=>by cases hd⟩
  · simp only [List.cons.injEq,Value.slice.injEq,and_true] at hc
    obtain ⟨rfl,rfl,rfl⟩:=hc
    have hmc:len≤m':=by rw [hmm];split<;>omega
    have key: ∀i,i<len→ ∃x:Int×List UInt8,(a.add (i*2)).block<w.heap.size∧w.cell? (a.add (i*2))=some (.int .i64 x.1)∧w.cell? ⟨(a.add (i*2)).block,(a.add (i*2)).off+1,none⟩=some (strOf x.2)∧(Lit.int .i64 x.1).wf=true:=by
      intro i hil
      obtain ⟨ys,n, -, -, -,hf⟩:=hi i (by omega)
      obtain ⟨v0,y0,c0, -,t0⟩:=hf 0 f0 rfl
      obtain ⟨v1,y1,c1, -,t1⟩:=hf 1 f1 rfl
      obtain ⟨x0,e0, -,w0⟩:=DataW.trod_int h0 t0
      obtain ⟨x1,e1, -, -⟩:=DataW.trod_string h1 t1
      simp only [List.cons.injEq,and_true] at e0 e1
      subst e0 e1
      refine ⟨(x0,x1.data.toList),?_,c0,?_,w0⟩
      · exact World.block_lt_of_cell? w _ c0
      · rw [←str_of,add_one];exact c1
    have hget: ∀i,(h:i<len)→((List.range len).map fun i=>if h:i<len then (key i h).choose else ((0:Int),([]:List UInt8)))[i]? =some (key i h).choose:=fun i h=>by
      rw [List.getElem?_map,List.getElem?_range h,Option.map_some,dif_pos h]
    have hlen:((List.range len).map fun i=>if h:i<len then (key i h).choose else ((0:Int),([]:List UInt8))).length=len:=by simp
    refine ⟨_,hlen,by rw [hlen];omega,⟨some a,cap,by rw [hlen],fun hn=>⟨a,rfl,?_,fun i d hd=> ?_⟩⟩,fun d hd=> ?_⟩
    · rw [hlen] at hn
      have:=(key 0 hn).choose_spec.1
      simpa [Addr.add] using this
    · have hil:i<len:=by rw [←hlen];exact (List.getElem?_eq_some_iff.1 hd).1
      rw [hget i hil] at hd
      obtain rfl:=Option.some.inj hd
      obtain ⟨a1,a2,a3, -⟩:=(key i hil).choose_spec
      exact ⟨a1,a2,a3⟩
    · obtain ⟨i,hi⟩:=List.getElem?_of_mem hd
      have hil:i<len:=by rw [←hlen];exact (List.getElem?_eq_some_iff.1 hi).1
      rw [hget i hil] at hi
      obtain rfl:=Option.some.inj hi
      exact (key i hil).choose_spec.2.2.2
end
section
open Go.RowKit
theorem fr_below {w W1 W2:World} {O O':Nat→Prop} (hb:Below w.heap.size w W1) (hF:Fr noX O O' W1 W2) (hO: ∀b,O b→w.heap.size≤b):Below w.heap.size w W2:=
  ⟨hF.os.trans hb.os,hF.tape.trans hb.tape,hF.output.trans hb.output,Nat.le_trans hb.size hF.size,fun k hk=>(hF.block k (Nat.lt_of_lt_of_le hk hb.size) (fun h=>by have:=hO k h;omega) (fun h=>h)).trans (hb.block k hk)⟩
theorem Fr.below_own {w0 W W':World} {X O O':Nat→Prop} (hF:Fr X O O' W W') (hb:Below w0.heap.size w0 W) (hO: ∀c,O c→w0.heap.size≤c) (hX: ∀c,X c→w0.heap.size≤c):Below w0.heap.size w0 W':=
  ⟨hF.os.trans hb.os,hF.tape.trans hb.tape,hF.output.trans hb.output,Nat.le_trans hb.size hF.size,fun k hk=>(hF.block k (Nat.lt_of_lt_of_le hk hb.size) (fun h=>by have:=hO k h;omega) (fun h=>by have:=hX k h;omega)).trans (hb.block k hk)⟩
theorem rd2_box {V:World} {g:Nat} {id:Int} {t:List UInt8} {T:TypeId} (hk:V.heap[g]? =some (.cells #[.int .i64 id,strOf t] T (0,0))):Rd2 V (.slice (some ⟨g,0,none⟩) ([(id,t)]:List (Int×List UInt8)).length 1) [(id,t)]:=by
  refine ⟨_,_,rfl,fun _=>⟨_,rfl,lt_of hk,fun i d hd=> ?_⟩⟩
  obtain rfl:i=0:=by have:=(List.getElem?_eq_some_iff.1 hd).1;simp at this;omega
  obtain rfl:(id,t)=d:=by simpa using hd
  refine ⟨by rw [block_of_add];exact lt_of hk,?_,?_⟩
  · rw [show (0*2:Nat)=0 from rfl,add_zero_off,cells_of hk];rfl
  · rw [show (0*2:Nat)=0 from rfl,add_zero_off,cells_of hk];rfl
structure St (w0 W:World) (ap:Value) (s:Ar) (L:List (Nat×Obj)):Prop where
  ex: ∃O,AP W ap s O∧(∀b,O b→w0.heap.size≤b)∧ ∀x∈L,W.heap[x.1]? =some x.2∧ ¬O x.1
  bel:Below w0.heap.size w0 W
section
variable {w0 W W' : World} {ap : Value} {s s' : Ar} {L : List (Nat × Obj)}
theorem St.below (h:St w0 W ap s L) (hb:Below W.heap.size W W'):St w0 W' ap s L:=by
  obtain ⟨O,hA,hO,hL⟩:=h.ex
  exact ⟨⟨O,hA.below hb,hO,fun x hx=>⟨keep_blk hb (hL x hx).1,(hL x hx).2⟩⟩,below_step h.bel hb⟩
theorem St.did (h:St w0 W ap s L) {O':Nat→Prop} (hex: ∃O,AP W ap s O∧(∀b,O b→w0.heap.size≤b)∧(∀x∈L,W.heap[x.1]? =some x.2∧ ¬O x.1)∧AP W' ap s' O'∧Fr noX O O' W W'):St w0 W' ap s' L:=by
  obtain ⟨O,hA,hO,hL,hA',hF⟩:=hex
  refine ⟨⟨O',hA',fun b hb=> ?_,fun x hx=>⟨hF.keep (hL x hx).1 (hL x hx).2 (fun h=>h),fun hb=> ?_⟩⟩,fr_below h.bel hF hO⟩
  · rcases hF.own b hb with h1|h1
    · exact hO b h1
    · have:=h.bel.size;omega
  · rcases hF.own _ hb with h1|h1
    · exact (hL x hx).2 h1
    · have:=lt_of (hL x hx).1;omega
theorem St.new {O:Nat→Prop} (hb:Below w0.heap.size w0 W) (hA:AP W ap s O) (hO: ∀b,O b→w0.heap.size≤b):St w0 W ap s []:=⟨⟨O,hA,hO,fun _ h=>by cases h⟩,hb⟩
theorem St.box (h:St w0 W ap s L) (o:Obj) (hv:W'=W.alloc o):St w0 W' ap s ((W.heap.size,o)::L):=by
  subst hv
  have hb:=below_box W o
  obtain ⟨O,hA,hO,hL⟩:=h.ex
  refine ⟨⟨O,hA.below hb,hO,fun x hx=> ?_⟩,below_step h.bel hb⟩
  rcases List.mem_cons.1 hx with rfl|hx
  · exact ⟨blk_new _ _ _ rfl,hA.new (Nat.le_refl _)⟩
  · exact ⟨keep_blk hb (hL x hx).1,(hL x hx).2⟩
theorem St.less (h:St w0 W ap s L) {L':List (Nat×Obj)} (hs: ∀x∈L',x∈L):St w0 W ap s L':=by
  obtain ⟨O,hA,hO,hL⟩:=h.ex
  exact ⟨⟨O,hA,hO,fun x hx=>hL x (hs x hx)⟩,h.bel⟩
theorem St.at (h:St w0 W ap s L) {b:Nat} {o:Obj} (hx:(b,o)∈L):W.heap[b]? =some o:=by
  obtain ⟨O, -, -,hL⟩:=h.ex
  exact (hL _ hx).1
theorem St.at0 {b:Nat} {o:Obj} (h:St w0 W ap s ((b,o)::L)):W.heap[b]? =some o:=h.at (List.mem_cons_self ..)
variable {f : FuncId} {args : Array Value} {r : Ending}
theorem St.read {P:Program} (h:St w0 W ap s L) (hc: ∀O,AP W ap s O→Calls P f args W fun e w'=>e=r∧Below W.heap.size W w'):Calls P f args W fun e w'=>e=r∧St w0 w' ap s L:=by
  obtain ⟨O,hA, -⟩:=h.ex
  exact (hc O hA).mono fun e w' ⟨he,hb⟩=>⟨he,h.below hb⟩
theorem St.same {P:Program} (h:St w0 W ap s L) (hc: ∀O,AP W ap s O→Calls P f args W fun e w'=>e=r∧W=w'):Calls P f args W fun e w'=>e=r∧St w0 w' ap s L:=by
  obtain ⟨O,hA, -⟩:=h.ex
  exact (hc O hA).mono fun e w' ⟨he,hb⟩=>⟨he,hb▸h⟩
theorem St.write {P:Program} (h:St w0 W ap s L) (hc: ∀O,AP W ap s O→Calls P f args W fun e w'=>e=r∧Did noX ap s' O W w'):Calls P f args W fun e w'=>e=r∧St w0 w' ap s' L:=by
  obtain ⟨O,hA,hO,hL⟩:=h.ex
  exact (hc O hA).mono fun e w' ⟨he,O',h1,h2⟩=>⟨he,h.did (O':=O') ⟨O,hA,hO,hL,h1,h2⟩⟩
end
end
section
open Go.RowKit
end
end Go.Proofs.YtmlmnmkhigjaaaaGreat
namespace Go.Proofs
open Go.Shelf
def Tryz.laySort_ren:Go.Shelf.Ren:=⟨fun|6=>221|15=>229|14=>274|28=>286|29=>287|20=>309|21=>310|22=>311|23=>312|24=>313|25=>314|26=>315|27=>316|46=>329|47=>318|48=>319|49=>330|50=>331|57=>347|n=>n,fun|22=>131|24=>136|25=>263|3=>3|39=>270|0=>0|53=>326|55=>150|4=>4|46=>320|45=>319|50=>27|5=>5|9=>9|66=>347|70=>200|76=>358|77=>201|n=>n,fun|n=>n⟩
theorem Tryz.laySort:Go.Proofs.SlLaysF0.n6 Tryz.prog Tryz.laySort_ren:={
  mixed:=by kernel_rfl
  f6:=⟨Tryz.f221.name,by decide,Tryz.func221.trans (congrArg some (by kernel_rfl))⟩
  f14:=⟨Tryz.f274.name,by decide,Tryz.func274.trans (congrArg some (by kernel_rfl))⟩
  f15:=Tryz.func229.trans (congrArg some (by kernel_rfl))
  f20:=⟨Tryz.f309.name,by decide,Tryz.func309.trans (congrArg some (by kernel_rfl))⟩
  f21:=⟨Tryz.f310.name,by decide,Tryz.func310.trans (congrArg some (by kernel_rfl))⟩
  f22:=⟨Tryz.f311.name,by decide,Tryz.func311.trans (congrArg some (by kernel_rfl))⟩
  f23:=⟨Tryz.f312.name,by decide,Tryz.func312.trans (congrArg some (by kernel_rfl))⟩
  f24:=⟨Tryz.f313.name,by decide,Tryz.func313.trans (congrArg some (by kernel_rfl))⟩
  f25:=⟨Tryz.f314.name,by decide,Tryz.func314.trans (congrArg some (by kernel_rfl))⟩
  f26:=⟨Tryz.f315.name,by decide,Tryz.func315.trans (congrArg some (by kernel_rfl))⟩
  f27:=⟨Tryz.f316.name,by decide,Tryz.func316.trans (congrArg some (by kernel_rfl))⟩
  f28:=Tryz.func286.trans (congrArg some (by kernel_rfl))
  f29:=Tryz.func287.trans (congrArg some (by kernel_rfl))
  f46:=⟨Tryz.f329.name,by decide,Tryz.func329.trans (congrArg some (by kernel_rfl))⟩
  f47:=Tryz.func318.trans (congrArg some (by kernel_rfl))
  f48:=Tryz.func319.trans (congrArg some (by kernel_rfl))
  f49:=⟨Tryz.f330.name,by decide,Tryz.func330.trans (congrArg some (by kernel_rfl))⟩
  f50:=⟨Tryz.f331.name,by decide,Tryz.func331.trans (congrArg some (by kernel_rfl))⟩
  f57:=⟨Tryz.f347.name,by decide,Tryz.func347.trans (congrArg some (by kernel_rfl))⟩
  t0:=Tryz.underlying0
  a0:=Tryz.isAgg0
  z0:=Tryz.sizeOf0
  v0:=Tryz.zeroValue0
  t3:=Tryz.underlying3
  a3:=Tryz.isAgg3
  z3:=Tryz.sizeOf3
  v3:=Tryz.zeroValue3
  t4:=Tryz.underlying4
  a4:=Tryz.isAgg4
  z4:=Tryz.sizeOf4
  v4:=Tryz.zeroValue4
  t5:=Tryz.underlying5
  a5:=Tryz.isAgg5
  z5:=Tryz.sizeOf5
  v5:=Tryz.zeroValue5
  t9:=Tryz.underlying9
  a9:=Tryz.isAgg9
  z9:=Tryz.sizeOf9
  v9:=Tryz.zeroValue9
  t22:=Tryz.underlying131
  a22:=Tryz.isAgg131
  z22:=Tryz.sizeOf131
  v22:=Tryz.zeroValue131
  t25:=Tryz.underlying263
  a25:=Tryz.isAgg263
  z25:=Tryz.sizeOf263
  v25:=Tryz.zeroValue263
  t39:=Tryz.underlying270
  a39:=Tryz.isAgg270
  z39:=Tryz.sizeOf270
  v39:=Tryz.zeroValue270
  t45:=Tryz.underlying319
  a45:=Tryz.isAgg319
  z45:=Tryz.sizeOf319
  v45:=Tryz.zeroValue319
  t46:=Tryz.underlying320
  a46:=Tryz.isAgg320
  z46:=Tryz.sizeOf320
  v46:=Tryz.zeroValue320
  t50:=Tryz.underlying27
  a50:=Tryz.isAgg27
  z50:=Tryz.sizeOf27
  v50:=Tryz.zeroValue27
  t53:=Tryz.underlying326
  a53:=Tryz.isAgg326
  z53:=Tryz.sizeOf326
  v53:=Tryz.zeroValue326
  t55:=Tryz.underlying150
  a55:=Tryz.isAgg150
  z55:=Tryz.sizeOf150
  v55:=Tryz.zeroValue150
  t66:=Tryz.underlying347
  a66:=Tryz.isAgg347
  z66:=Tryz.sizeOf347
  v66:=Tryz.zeroValue347
  t70:=Tryz.underlying200
  a70:=Tryz.isAgg200
  z70:=Tryz.sizeOf200
  v70:=Tryz.zeroValue200
  t76:=Tryz.underlying358
  a76:=Tryz.isAgg358
  z76:=Tryz.sizeOf358
  v76:=Tryz.zeroValue358
  t77:=Tryz.underlying201
  a77:=Tryz.isAgg201
  z77:=Tryz.sizeOf201
  v77:=Tryz.zeroValue201}
def Tryz.layEqItem_ren:Go.Shelf.Ren:=⟨fun|8=>128|n=>n,fun|22=>146|24=>140|4=>4|3=>3|0=>0|n=>n,fun|n=>n⟩
theorem Tryz.layEqItem:Go.Proofs.SlLaysQ.n8 Tryz.prog Tryz.layEqItem_ren:={
  mixed:=by kernel_rfl
  f8:=⟨Tryz.f128.name,by decide,Tryz.func128.trans (congrArg some (by kernel_rfl))⟩
  t0:=Tryz.underlying0
  a0:=Tryz.isAgg0
  z0:=Tryz.sizeOf0
  v0:=Tryz.zeroValue0
  t3:=Tryz.underlying3
  a3:=Tryz.isAgg3
  z3:=Tryz.sizeOf3
  v3:=Tryz.zeroValue3
  t4:=Tryz.underlying4
  a4:=Tryz.isAgg4
  z4:=Tryz.sizeOf4
  v4:=Tryz.zeroValue4
  t22:=Tryz.underlying146
  a22:=Tryz.isAgg146
  z22:=Tryz.sizeOf146
  v22:=Tryz.zeroValue146}
def Tryz.layEqInt_ren:Go.Shelf.Ren:=⟨fun|33=>130|n=>n,fun|22=>43|23=>3|4=>4|3=>3|0=>0|n=>n,fun|n=>n⟩
theorem Tryz.layEqInt:Go.Proofs.SlLaysE.n33 Tryz.prog Tryz.layEqInt_ren:={
  mixed:=by kernel_rfl
  f33:=⟨Tryz.f130.name,by decide,Tryz.func130.trans (congrArg some (by kernel_rfl))⟩
  t0:=Tryz.underlying0
  a0:=Tryz.isAgg0
  z0:=Tryz.sizeOf0
  v0:=Tryz.zeroValue0
  t3:=Tryz.underlying3
  a3:=Tryz.isAgg3
  z3:=Tryz.sizeOf3
  v3:=Tryz.zeroValue3
  t4:=Tryz.underlying4
  a4:=Tryz.isAgg4
  z4:=Tryz.sizeOf4
  v4:=Tryz.zeroValue4
  t22:=Tryz.underlying43
  a22:=Tryz.isAgg43
  z22:=Tryz.sizeOf43
  v22:=Tryz.zeroValue43
  a23:=Tryz.isAgg3
  z23:=Tryz.sizeOf3}
def Tryz.layEqBool_ren:Go.Shelf.Ren:=⟨fun|33=>133|n=>n,fun|22=>128|23=>4|4=>4|3=>3|0=>0|n=>n,fun|n=>n⟩
theorem Tryz.layEqBool:Go.Proofs.SlLaysE.n33 Tryz.prog Tryz.layEqBool_ren:={
  mixed:=by kernel_rfl
  f33:=⟨Tryz.f133.name,by decide,Tryz.func133.trans (congrArg some (by kernel_rfl))⟩
  t0:=Tryz.underlying0
  a0:=Tryz.isAgg0
  z0:=Tryz.sizeOf0
  v0:=Tryz.zeroValue0
  t3:=Tryz.underlying3
  a3:=Tryz.isAgg3
  z3:=Tryz.sizeOf3
  v3:=Tryz.zeroValue3
  t4:=Tryz.underlying4
  a4:=Tryz.isAgg4
  z4:=Tryz.sizeOf4
  v4:=Tryz.zeroValue4
  t22:=Tryz.underlying128
  a22:=Tryz.isAgg128
  z22:=Tryz.sizeOf128
  v22:=Tryz.zeroValue128
  a23:=Tryz.isAgg4
  z23:=Tryz.sizeOf4}
def Tryz.layHasStr_ren:Go.Shelf.Ren:=⟨fun|8=>224|6=>276|n=>n,fun|22=>75|23=>9|25=>189|4=>4|3=>3|0=>0|n=>n,fun|n=>n⟩
theorem Tryz.layHasStr:Go.Proofs.SlLaysH.n8 Tryz.prog Tryz.layHasStr_ren:={
  mixed:=by kernel_rfl
  f6:=⟨Tryz.f276.name,by decide,Tryz.func276.trans (congrArg some (by kernel_rfl))⟩
  f8:=⟨Tryz.f224.name,by decide,Tryz.func224.trans (congrArg some (by kernel_rfl))⟩
  t0:=Tryz.underlying0
  a0:=Tryz.isAgg0
  z0:=Tryz.sizeOf0
  v0:=Tryz.zeroValue0
  t3:=Tryz.underlying3
  a3:=Tryz.isAgg3
  z3:=Tryz.sizeOf3
  v3:=Tryz.zeroValue3
  t4:=Tryz.underlying4
  a4:=Tryz.isAgg4
  z4:=Tryz.sizeOf4
  v4:=Tryz.zeroValue4
  t22:=Tryz.underlying75
  a22:=Tryz.isAgg75
  z22:=Tryz.sizeOf75
  v22:=Tryz.zeroValue75
  a23:=Tryz.isAgg9
  z23:=Tryz.sizeOf9
  t25:=Tryz.underlying189
  a25:=Tryz.isAgg189
  z25:=Tryz.sizeOf189
  v25:=Tryz.zeroValue189}
def Tryz.layDelInt_ren:Go.Shelf.Ren:=⟨fun|10=>150|6=>233|n=>n,fun|22=>43|23=>3|25=>123|3=>3|4=>4|0=>0|n=>n,fun|n=>n⟩
theorem Tryz.layDelInt:Go.Proofs.SlLaysH.n10 Tryz.prog Tryz.layDelInt_ren:={
  mixed:=by kernel_rfl
  f6:=⟨Tryz.f233.name,by decide,Tryz.func233.trans (congrArg some (by kernel_rfl))⟩
  f10:=⟨Tryz.f150.name,by decide,Tryz.func150.trans (congrArg some (by kernel_rfl))⟩
  t0:=Tryz.underlying0
  a0:=Tryz.isAgg0
  z0:=Tryz.sizeOf0
  v0:=Tryz.zeroValue0
  t3:=Tryz.underlying3
  a3:=Tryz.isAgg3
  z3:=Tryz.sizeOf3
  v3:=Tryz.zeroValue3
  t4:=Tryz.underlying4
  a4:=Tryz.isAgg4
  z4:=Tryz.sizeOf4
  v4:=Tryz.zeroValue4
  t22:=Tryz.underlying43
  a22:=Tryz.isAgg43
  z22:=Tryz.sizeOf43
  v22:=Tryz.zeroValue43
  a23:=Tryz.isAgg3
  z23:=Tryz.sizeOf3
  t25:=Tryz.underlying123
  a25:=Tryz.isAgg123
  z25:=Tryz.sizeOf123
  v25:=Tryz.zeroValue123}
def Tryz.laySortInt_ren:Go.Shelf.Ren:=⟨fun|189=>136|125=>229|257=>228|128=>286|129=>287|294=>277|295=>278|296=>279|297=>280|298=>281|299=>282|216=>283|300=>284|301=>285|328=>317|329=>318|330=>319|331=>320|332=>321|215=>322|343=>332|n=>n,fun|28=>43|3=>3|46=>270|0=>0|51=>326|53=>150|4=>4|183=>320|182=>319|131=>27|5=>5|9=>9|218=>347|222=>200|228=>358|229=>201|n=>n,fun|n=>n⟩
theorem Tryz.laySortInt:Go.Proofs.Lays.n189 Tryz.prog Tryz.laySortInt_ren:={
  mixed:=by kernel_rfl
  f125:=Tryz.func229.trans (congrArg some (by kernel_rfl))
  f128:=Tryz.func286.trans (congrArg some (by kernel_rfl))
  f129:=Tryz.func287.trans (congrArg some (by kernel_rfl))
  f189:=Tryz.func136.trans (congrArg some (by kernel_rfl))
  f215:=Tryz.func322.trans (congrArg some (by kernel_rfl))
  f216:=Tryz.func283.trans (congrArg some (by kernel_rfl))
  f257:=Tryz.func228.trans (congrArg some (by kernel_rfl))
  f294:=Tryz.func277.trans (congrArg some (by kernel_rfl))
  f295:=Tryz.func278.trans (congrArg some (by kernel_rfl))
  f296:=Tryz.func279.trans (congrArg some (by kernel_rfl))
  f297:=Tryz.func280.trans (congrArg some (by kernel_rfl))
  f298:=Tryz.func281.trans (congrArg some (by kernel_rfl))
  f299:=Tryz.func282.trans (congrArg some (by kernel_rfl))
  f300:=Tryz.func284.trans (congrArg some (by kernel_rfl))
  f301:=Tryz.func285.trans (congrArg some (by kernel_rfl))
  f328:=Tryz.func317.trans (congrArg some (by kernel_rfl))
  f329:=Tryz.func318.trans (congrArg some (by kernel_rfl))
  f330:=Tryz.func319.trans (congrArg some (by kernel_rfl))
  f331:=Tryz.func320.trans (congrArg some (by kernel_rfl))
  f332:=Tryz.func321.trans (congrArg some (by kernel_rfl))
  f343:=Tryz.func332.trans (congrArg some (by kernel_rfl))
  t0:=Tryz.underlying0
  a0:=Tryz.isAgg0
  z0:=Tryz.sizeOf0
  v0:=Tryz.zeroValue0
  t3:=Tryz.underlying3
  a3:=Tryz.isAgg3
  z3:=Tryz.sizeOf3
  v3:=Tryz.zeroValue3
  t4:=Tryz.underlying4
  a4:=Tryz.isAgg4
  z4:=Tryz.sizeOf4
  v4:=Tryz.zeroValue4
  t5:=Tryz.underlying5
  a5:=Tryz.isAgg5
  z5:=Tryz.sizeOf5
  v5:=Tryz.zeroValue5
  t9:=Tryz.underlying9
  a9:=Tryz.isAgg9
  z9:=Tryz.sizeOf9
  v9:=Tryz.zeroValue9
  t28:=Tryz.underlying43
  a28:=Tryz.isAgg43
  z28:=Tryz.sizeOf43
  v28:=Tryz.zeroValue43
  t46:=Tryz.underlying270
  a46:=Tryz.isAgg270
  z46:=Tryz.sizeOf270
  v46:=Tryz.zeroValue270
  t51:=Tryz.underlying326
  a51:=Tryz.isAgg326
  z51:=Tryz.sizeOf326
  v51:=Tryz.zeroValue326
  t53:=Tryz.underlying150
  a53:=Tryz.isAgg150
  z53:=Tryz.sizeOf150
  v53:=Tryz.zeroValue150
  t131:=Tryz.underlying27
  a131:=Tryz.isAgg27
  z131:=Tryz.sizeOf27
  v131:=Tryz.zeroValue27
  t182:=Tryz.underlying319
  a182:=Tryz.isAgg319
  z182:=Tryz.sizeOf319
  v182:=Tryz.zeroValue319
  t183:=Tryz.underlying320
  a183:=Tryz.isAgg320
  z183:=Tryz.sizeOf320
  v183:=Tryz.zeroValue320
  t218:=Tryz.underlying347
  a218:=Tryz.isAgg347
  z218:=Tryz.sizeOf347
  v218:=Tryz.zeroValue347
  t222:=Tryz.underlying200
  a222:=Tryz.isAgg200
  z222:=Tryz.sizeOf200
  v222:=Tryz.zeroValue200
  t228:=Tryz.underlying358
  a228:=Tryz.isAgg358
  z228:=Tryz.sizeOf358
  v228:=Tryz.zeroValue358
  t229:=Tryz.underlying201
  a229:=Tryz.isAgg201
  z229:=Tryz.sizeOf201
  v229:=Tryz.zeroValue201}
end Go.Proofs
namespace Go.Proofs.YtmlmnmkhigjaaaaGreat
set_option maxRecDepth 100000
set_option maxHeartbeats 8000000
section
open Go.RowKit
structure Pt where
  s:Ar
  src:Int
  rate:Int
  id:Int
  text:List UInt8
  p:Parts
  pos:Int
  row:Int
  begun:Bool
  over:Bool
  root:Int
def insI (x:Int):List Int→List Int
  | []=>[x]
  | y::l=>if x≤y then x::y::l else y::insI x l
def sortI:List Int→List Int
  | []=>[]
  | x::l=>insI x (sortI l)
def Pt.held (x:Pt):List Int:=if x.over then [] else (sortI [x.src,x.p.wave,x.p.marks,x.p.spots,x.p.table]).filter fun h=> !decide (h=0)
def Pt.stop (x:Pt):Pt:={x with s:=x.s.dropAll x.held,over:=true,p:=Parts.zero}
def Pt.left (x:Pt):Int:=if x.over then 0 else if x.begun then wrap64 (x.pos+2) else wrap64 ((x.text.length:Int)+3)
def Parts.at (p:Parts):Nat→Int
  | 0=>p.wave
  | 1=>p.marks
  | 2=>p.spots
  | _=>p.table
def Parts.put (p:Parts) (i:Nat) (h:Int):Parts:=
  match i with
  | 0=>{p with wave:=h}
  | 1=>{p with marks:=h}
  | 2=>{p with spots:=h}
  | _=>{p with table:=h}
def Pt.swap (x:Pt) (i:Nat) (r:Int×Int×Ar):Int×Pt:=
  if r.2.1=0 then (0,{x with s:=r.2.2.drop (x.p.at i),p:=x.p.put i r.1}) else (r.2.1,{x with s:=r.2.2})
def keepP (s:Ar) (q:Parts):Ar:=(((s.keep q.wave).keep q.marks).keep q.spots).keep q.table
def Pt.start (x:Pt):Pt:={x with s:=keepP x.s (vOf x.s x.src),p:=vOf x.s x.src,begun:=true,row:=lLen (keepP x.s (vOf x.s x.src)) (vOf x.s x.src).table}
def Pt.begin (x:Pt):Option (Int×Pt):=
  (lAll x.start.s x.start.p.table).bind fun a=>if a.length≤50000 then (tAdd x.start.s x.start.p.table x.id x.text.length).map fun r=>x.start.swap 3 r else none
def Pt.sym (x:Pt):Int:=if 0<x.pos then ((x.text.getD (x.pos - 1).toNat 0).toNat:Int)+1 else 0
def Pt.mark (x:Pt) (next:Int) (one:Bool):Option (Int×Pt):=
  (bInsert x.s x.p.marks x.row one).map fun r=>({x with s:=r.2.2,row:=next,pos:=wrap64 (x.pos - 1)}:Pt).swap 1 (r.1,r.2.1,r.2.2)
def Pt.insert (x:Pt):Option (Int×Pt):=
  (wBefore x.s x.p.wave x.sym).bind fun b=>(wRank x.s x.p.wave x.sym x.row).bind fun k=>
  (wInsert x.s x.p.wave x.row x.sym).bind fun r1=>
  if (x.swap 0 r1).1=0 then
    (if x.pos % x.rate=0 then
      (bRank (x.swap 0 r1).2.s (x.swap 0 r1).2.p.marks x.row).bind fun j=>(lInsert (x.swap 0 r1).2.s (x.swap 0 r1).2.p.spots j (x.id,x.pos)).bind fun r2=>
      if ((x.swap 0 r1).2.swap 2 r2).1=0 then ((x.swap 0 r1).2.swap 2 r2).2.mark (wrap64 (wrap64 (b+1)+k)) true
      else some ((x.swap 0 r1).2.swap 2 r2)
     else (x.swap 0 r1).2.mark (wrap64 (wrap64 (b+1)+k)) false)
  else some (x.swap 0 r1)
def Pt.asked (r:Int×Pt):Bool×Int×Pt:=if r.1=0 then (r.2.over,0,r.2) else (r.2.stop.over,r.1,r.2.stop)
def Pt.step (x:Pt):Option (Bool×Int×Pt):=
  if x.over then some (true,10,x)
  else if x.begun then
    (if 0≤x.pos then x.insert.map Pt.asked
     else some (true,(vMake x.s x.p).2.1,({x with s:=(vMake x.s x.p).2.2,root:=(vMake x.s x.p).1}:Pt).stop))
  else x.begin.map Pt.asked
def Pt.new (s:Ar) (root rate id:Int) (text:List UInt8):Pt:=⟨s.keep root,root,rate,id,text,Parts.zero,text.length,0,false,false,0⟩
end
section
open Go.RowKit Go.Sort
theorem insI_perm (x:Int): ∀l:List Int,(insI x l).Perm (x::l)
  | []=>List.Perm.refl _
  | y::l=>by
    unfold insI
    split
    · exact List.Perm.refl _
    · exact ((insI_perm x l).cons y).trans (List.Perm.swap x y l)
theorem sortI_perm: ∀l:List Int,(sortI l).Perm l
  | []=>List.Perm.refl _
  | x::l=>(insI_perm x (sortI l)).trans ((sortI_perm l).cons x)
theorem insI_sorted (x:Int): ∀{l:List Int},l.Pairwise (· ≤ ·)→(insI x l).Pairwise (· ≤ ·)
  | [],_=>by simp [insI]
  | y::l,h=>by
    unfold insI
    rw [List.pairwise_cons] at h
    split
    · rename_i hxy
      refine List.pairwise_cons.2 ⟨fun z hz=> ?_,List.pairwise_cons.2 h⟩
      rcases List.mem_cons.1 hz with rfl|hz
      · exact hxy
      · have:=h.1 z hz;omega
    · rename_i hxy
      refine List.pairwise_cons.2 ⟨fun z hz=> ?_,insI_sorted x h.2⟩
      rcases List.mem_cons.1 ((insI_perm x l).mem_iff.1 hz) with rfl|hz
      · omega
      · exact h.1 z hz
theorem sortI_sorted: ∀l:List Int,(sortI l).Pairwise (· ≤ ·)
  | []=>List.Pairwise.nil
  | x::l=>insI_sorted x (sortI_sorted l)
theorem sorted_unique: ∀{A B:List Int},A.Pairwise (· ≤ ·)→B.Pairwise (· ≤ ·)→A.Perm B→A=B
  | [],B,_,_,h=>(List.Perm.eq_nil h.symm).symm
  | x::A,[],_,_,h=>List.Perm.eq_nil h
  | x::A,y::B,h1,h2,h=>by
    rw [List.pairwise_cons] at h1 h2
    have e:x=y:=by
      have hx:x∈y::B:=h.mem_iff.1 (by simp)
      have hy:y∈x::A:=h.mem_iff.2 (by simp)
      rcases List.mem_cons.1 hx with e|e
      · exact e
      · rcases List.mem_cons.1 hy with e'|e'
        · exact e'.symm
        · have:=h1.1 y e';have:=h2.1 x e;omega
    subst e
    rw [sorted_unique h1.2 h2.2 (List.perm_cons x|>.1 h)]
theorem merge_sortI (l:List Int):(l.mergeSort fun x y=>decide (x≤y))=sortI l:=by
  refine sorted_unique ?_ (sortI_sorted l) ((List.mergeSort_perm l _).trans (sortI_perm l).symm)
  have:=List.pairwise_mergeSort (le:=fun x y:Int=>decide (x≤y)) (fun a b c h1 h2=>by simp at*;omega) (fun a b=>by simp;omega) l
  exact this.imp fun h=>by simpa using h
theorem grow_nil (w:World):Go.Sort.grow w #[]=w:=by cases w;simp [Go.Sort.grow]
def keepL (s:Ar) (l:List Int):Ar:=l.foldl Ar.keep s
theorem keep_take (s:Ar) (l:List Int) (i:Nat) (h:i<l.length):keepL s (l.take (i+1))=(keepL s (l.take i)).keep l[i]:=by
  unfold keepL
  rw [List.take_succ_eq_append_getElem h,List.foldl_append];rfl
theorem part_cell (q:Parts) (j:Nat) (h:j<[q.wave,q.marks,q.spots,q.table].length):(#[Value.int .i64 q.wave, .int .i64 q.marks, .int .i64 q.spots, .int .i64 q.table]:Array Value)[j]? =some (.int .i64 [q.wave,q.marks,q.spots,q.table][j]):=by
  have:[q.wave,q.marks,q.spots,q.table].length=4:=rfl
  rcases (show j=0∨j=1∨j=2∨j=3 by omega) with rfl|rfl|rfl|rfl<;>rfl
end
section
open Go.RowKit Go.Sort
attribute [local go_sem ↓] Go.wp_at_zero Go.wp_at_succ
attribute [local go_sem] lt_s2 lt_s3 lt_s4 str_len
structure PB (w:World) (pb:Nat) (ap:Value) (x:Pt) (O:Nat→Prop):Prop where
  hA:AP w ap x.s O
  blk:w.heap[pb]? =some (.cells #[ap, .int .i64 x.src, .int .i64 x.rate, .int .i64 x.id,strOf x.text, .int .i64 x.p.wave, .int .i64 x.p.marks, .int .i64 x.p.spots, .int .i64 x.p.table, .int .i64 x.pos, .int .i64 x.row, .bool x.begun, .bool x.over, .int .i64 x.root] 191 (0,0))
  no: ¬O pb
def DidP (pb:Nat) (ap:Value) (x':Pt) (O:Nat→Prop) (w w':World):Prop:= ∃O',PB w' pb ap x' O'∧Fr (oneX pb) O O' w w'
theorem didp_gen {tb:Nat} {ap:Value} {x':Pt} {O:Nat→Prop} {w w':World} (h: ∀v,v=w'→DidP tb ap x' O w v):DidP tb ap x' O w w':=h w' rfl
variable {ap : Value} {O : Nat → Prop} {tb : Nat} {x : Pt}
theorem pRoot_calls (w : World) (hT : PB w tb ap x O) :
    Calls Tryz.prog 50 #[.pointer (some ⟨tb,0,none⟩)] w fun e w'=>e= .returned (.int .i64 x.root)∧w=w':=by
  go_enter Tryz.func50,Tryz.ntmps50
  have kt:=hT.blk
  have c_kt:=f3 kt;have l_ktw:=lt_of kt
  go_wp2_with fail
  go_ret
  exact ⟨rfl,rfl⟩
theorem pLeft_calls (w : World) (hT : PB w tb ap x O) :
    Calls Tryz.prog 144 #[.pointer (some ⟨tb,0,none⟩)] w fun e w'=>e= .returned (.int .i64 x.left)∧w=w':=by
  have kt:=hT.blk
  unfold Pt.left
  cases hov:x.over with
  | true=>
    rw [hov] at kt
    go_enter Tryz.func144,Tryz.ntmps144
    have c_kt:=f3 kt;have l_ktw:=lt_of kt
    go_wp2_with fail
    go_ret
    exact ⟨rfl,rfl⟩
  | false=>
    rw [hov] at kt
    cases hb:x.begun with
    | true=>
      rw [hb] at kt
      go_enter Tryz.func144,Tryz.ntmps144
      have c_kt:=f3 kt;have l_ktw:=lt_of kt
      go_wp2_with fail
      go_ret
      exact ⟨rfl,rfl⟩
    | false=>
      rw [hb] at kt
      go_enter Tryz.func144,Tryz.ntmps144
      have c_kt:=f3 kt;have l_ktw:=lt_of kt
      go_wp2_with fail
      go_ret
      exact ⟨rfl,rfl⟩
theorem holds_ints {w:World} {g:Nat} {zs:List Int} {T:TypeId} (hk:w.heap[g]? =some (.cells (zs.map (Value.int .i64)).toArray T (0,0))):Go.Sort.Holds (Value.int .i64) w g 0 zs.toArray:=fun j hj=>by
  have hj':j<zs.length:=by simpa using hj
  rw [Nat.zero_add,cells_of hk,free_of hk]
  refine ⟨?_,rfl⟩
  simp [hj']
theorem put_cells {zs ts:List Int} (hl:ts.length=zs.length):(Go.Sort.putCells (Value.int .i64) 0 ts.toArray (zs.map (Value.int .i64)).toArray)=(ts.map (Value.int .i64)).toArray:=by
  apply Array.ext
  · simp [Go.Sort.putCells,hl]
  · intro i h1 h2
    have h3:i<ts.length:=by simpa using h2
    simp [Go.Sort.putCells,h3]
theorem sortInt_calls (g : Nat) (zs : List Int) (T : TypeId) (w : World) (hk : w.heap[g]? = some (.cells (zs.map (Value.int .i64)).toArray T (0, 0))) (hl : zs.length ≤ 100) :
    Calls Tryz.prog 136 #[.slice (some ⟨g,0,none⟩) zs.length zs.length] w fun e w'=>e= .returned (.tuple #[])∧w.grownBy w' (some g)∧w'.heap[g]? =some (.cells ((sortI zs).map (Value.int .i64)).toArray T (0,0)):=by
  have hcon:=Any.slices_Sort_int Tryz.laySortInt g 0 zs.length zs w (holds_ints hk) (lt_of hk) (by omega)
  refine Calls.mono hcon ?_
  rintro e w' ⟨rfl,n,os,rfl⟩
  rw [merge_sortI]
  refine ⟨rfl,grownBy_sortedI _,?_⟩
  rw [heap_sortedI _ hk,put_cells (sortI_perm zs).length_eq]
theorem zero_gives (W:World) (x:Int):FnGives Tryz.prog 151 #[] #[.int .i64 x] (.bool (decide (x=0))) W:=by
  show Calls Tryz.prog 151 #[.int .i64 x] W _
  go_enter Tryz.func151,Tryz.ntmps151
  go_wp2
  go_ret
  exact ⟨rfl,0,rfl⟩
theorem delInt_calls (g : Nat) (zs : List Int) (T : TypeId) (w : World) (hk : w.heap[g]? = some (.cells (zs.map (Value.int .i64)).toArray T (0, 0))) (hl : zs.length ≤ 100) :
    Calls Tryz.prog 150 #[.slice (some ⟨g,0,none⟩) zs.length zs.length, .func (.func 151) #[] #[]] w fun e w'=>e= .returned (.slice (some ⟨g,0,none⟩) (zs.filter fun h=> !decide (h=0)).length zs.length)∧w.grownBy w' (some g)∧
      ∃ys:List Value,ys.length=zs.length∧ys.take (zs.filter fun h=> !decide (h=0)).length=(zs.filter fun h=> !decide (h=0)).map (Value.int .i64)∧w'.heap[g]? =some (.cells ys.toArray T (0,0)):=by
  have eg: ∀args w,(callFunc 151 args).run Tryz.prog w= .ok (.enter 151 args) w:=enters_of Tryz.func151 (by kernel_rfl) rfl
  have hcon:=AnyE.slices_DeleteFunc Tryz.layDelInt (Value.int .i64) (fun _=>rfl) (fun x=>decide (x=0)) 151 #[] eg 0 (fun w=>by kernel_rfl) g 0 zs.length zs.toArray w (fun W x _=>zero_gives W x) (fun n os dk x _=>zero_gives _ x) (holds_ints hk) (by simp;omega) (by simp)
  have hsz:zs.toArray.size=zs.length:=by simp
  have htl:zs.toArray.toList=zs:=rfl
  rw [hsz,htl] at hcon
  refine Calls.mono hcon ?_
  rintro e w' ⟨rfl,q,rfl⟩
  have hfl:=List.length_filter_le (fun x:Int=> !decide (x=0)) zs
  obtain ⟨ts,hts⟩: ∃ts,ts=(zs.filter fun x=> !decide (x=0))++List.replicate (zs.length - (zs.filter fun x=> !decide (x=0)).length) 0:=⟨_,rfl⟩
  have htl:ts.length=zs.length:=by rw [hts];simp;omega
  rw [←hts]
  have hgr:w.grownBy (putRow (Value.int .i64) (Go.Sort.ahead w q) g 0 ts.toArray) (some g):=by
    rw [←grow_nil (putRow _ _ _ _ _)];exact grownBy_sortedI _
  refine ⟨rfl,hgr,ts.map (Value.int .i64),by rw [List.length_map,htl],?_,?_⟩
  · rw [←List.map_take,hts,List.take_left']
    rfl
  · rw [←grow_nil (putRow _ _ _ _ _),heap_sortedI _ hk,put_cells htl]
theorem pHeld_calls (w : World) (hT : PB w tb ap x O) :
    Calls Tryz.prog 51 #[.pointer (some ⟨tb,0,none⟩)] w fun e w'=> ∃v,e= .returned v∧w'.ownsRow w.heap.size 3 1 v x.held.length (x.held.map (Value.int .i64))∧Below w.heap.size w w':=by
  have kt:=hT.blk
  unfold Pt.held
  cases hov:x.over with
  | true=>
    rw [hov] at kt
    go_enter Tryz.func51,Tryz.ntmps51
    have c_kt:=f3 kt;have l_ktw:=lt_of kt
    go_wp2_with fail
    go_ret
    exact ⟨_,rfl,World.ownsRow_nil _ _ _ _,Below.refl _ _⟩
  | false=>
    rw [hov] at kt
    rw [if_neg (by decide)]
    obtain ⟨zs,hzs⟩: ∃zs,[x.src,x.p.wave,x.p.marks,x.p.spots,x.p.table]=zs:=⟨_,rfl⟩
    have HZ:=Lib.hid hzs
    have hz5:zs.length=5:=by rw [←hzs];rfl
    rw [hzs]
    clear hzs
    go_enter Tryz.func51,Tryz.ntmps51
    have c_kt:=f3 kt;have l_ktw:=lt_of kt
    go_wp2_with fail
    refine wg fun V hV_V=> ?_
    have hB:=Below.refl w.heap.size w
    refine neb1 hV_V hB kt ?_;clear hB kt c_kt;intro z_V hB kt c_kt
    clear hV_V
    refine dr (fun v=>Sm v V (tb)∧(V.heap.size≤v.heap.size)∧True) ⟨fun _=>rfl,Nat.le_refl _,trivial⟩ fun Vd hV_Vd hHeld=> ?_
    have v_kt:=c_kt.1
    refine neb1 hV_Vd hB kt ?_;clear hB kt c_kt;intro z_Vd hB kt c_kt
    clear hV_Vd
    refine ta 0 hHeld ?_
    refine ta 1 hHeld ?_
    refine ta 2 hHeld ?_
    refine ta 3 hHeld ?_
    refine ta 4 hHeld ?_
    refine ta 5 hHeld ?_
    refine ta 6 hHeld ?_
    refine ta 7 hHeld ?_
    refine ta 8 hHeld ?_
    refine ta 9 hHeld ?_
    refine ta 10 hHeld ?_
    refine ta 11 hHeld ?_
    refine ta 12 hHeld ?_
    refine ta 13 hHeld ?_
    refine ta 14 hHeld ?_
    refine ta 15 hHeld ?_
    refine ta 16 hHeld ?_
    refine ta 17 hHeld ?_
    refine ta 18 hHeld ?_
    refine ta 19 hHeld ?_
    refine ta 20 hHeld ?_
    refine ta 21 hHeld ?_
    refine ta 22 hHeld ?_
    refine ta 23 hHeld ?_
    refine rd 24 rfl fun K hK=> ?_
    go_simp
    refine gen_app (K:=K) (fun D hV_D=> ?_)
    refine neb1 hV_D hB kt ?_;clear hB kt c_kt;intro z_D hB kt c_kt
    obtain ⟨kn,c_kn,l_knD⟩:=nM hV_D (Vd.heap.size)
    clear hV_D
    refine ho hK (⟨vv c_kt v_kt,by omega,trivial⟩) fun hHeld=> ?_
    clear hK K
    refine rd 25 rfl fun K hK=> ?_
    go_simp
    refine ho hK hHeld fun hHeld=> ?_
    clear hK K
    refine wd ?_
    have hgw:w.heap.size≤Vd.heap.size:=by omega
    have kz:D.heap[Vd.heap.size]? =some (.cells (zs.map (Value.int .i64)).toArray 3 (0,0)):=by rw [kn,←HZ.out];rfl
    have hc1:=sortInt_calls Vd.heap.size zs 3 D kz (by omega)
    rw [hz5] at hc1
    clear kt kn c_kt c_kn v_kt hHeld kz
    generalize Vd.heap.size=g at hc1 hgw⊢
    go_wp2_with fail
    refine hc1.mono ?_
    rintro e1 W1 ⟨rfl,hg1,hk1⟩
    have hs5:(sortI zs).length=5:=by rw [(sortI_perm zs).length_eq,hz5]
    have hc2:=delInt_calls g (sortI zs) 3 W1 hk1 (by omega)
    rw [hs5] at hc2
    have hB1:=hB.grown hg1 hB.size (fun j hj=>by cases hj;exact hgw)
    have HB1:=Lib.hid hB1
    clear hc1 hg1 hk1 hB hB1
    go_wp2_with fail
    refine hc2.mono ?_
    rintro e2 W2 ⟨rfl,hg2,ys,hy1,hy2,hk2⟩
    have HB2:=Lib.hid (HB1.out.grown hg2 HB1.out.size (fun j hj=>by cases hj;exact hgw))
    have hfl:=List.length_filter_le (fun h:Int=> !decide (h=0)) (sortI zs)
    clear hc2 hg2
    go_wp2_with fail
    go_ret
    refine ⟨_,rfl,⟨by simp, .inr ⟨g,5,ys.toArray,rfl,hgw,hk2,by omega,by unfold maxLen;omega,by simp [hy1],by rw [Nat.mul_one,←hy2]⟩⟩,HB2.out⟩
end
section
open Go.RowKit Go.Sort
attribute [local go_sem ↓] Go.wp_at_zero Go.wp_at_succ
attribute [local go_sem] lt_s2 lt_s3 lt_s4 str_len
variable {s : Ar} {O : Nat → Prop}
theorem symText_calls (t:List UInt8) (w:World):Calls Tryz.prog 145 #[strOf t] w fun e w'=>e= .returned (.bool (decide (t.length≤40)))∧w=w':=by
  go_enter Tryz.func145,Tryz.ntmps145
  go_wp2_with fail
  go_ret
  refine ⟨ret_bool ?_,rfl⟩
  simp only [Int.ofNat_le,decide_eq_decide]
  omega
theorem pNew_yes (p : Addr) (root rate id : Int) (t : List UInt8) (l : List (Int × Int)) (hl : lAll s (vOf s root).table = some l) (hll : l.length ≤ 50000)
    (hvi:vIs s root=true) (h1:1≤rate) (h2:rate≤16) (h3:1≤id) (hpl:(placeIn id l 0).2=false) (h4:t.length≤40) (h10:vDocs s root<10) (w:World) (hA:AP w (.pointer (some p)) s O):
    Calls Tryz.prog 48 #[.pointer (some p), .int .i64 root, .int .i64 rate, .int .i64 id,strOf t] w fun e w'=> ∃b O',e= .returned (.tuple #[.pointer (some ⟨b,0,none⟩), .int .i64 0])∧w.heap.size≤b∧PB w' b (.pointer (some p)) (Pt.new s root rate id t) O'∧Fr noX O O' w w':=by
  have Hl:=Lib.hid hl;have Hll:=Lib.hid hll
  have d1:decide (rate<1)=false:=by simp;omega
  have d2:decide (16<rate)=false:=by simp;omega
  have d3:decide (id<1)=false:=by simp;omega
  have d4:decide (t.length≤40)=true:=by simpa using h4
  have d5:decide (10≤vDocs s root)=false:=by simp;omega
  clear hl hll h1 h2 h3 h4 h10
  go_enter Tryz.func48,Tryz.ntmps48
  go_wp2_with fail
  refine cg fun V hV_V=> ?_
  have hF:=Fr.refl (noX) O w
  refine nef0 hV_V hA hF ?_;clear hA hF;intro z_V hA hF
  clear hV_V
  refine rC (vOf_calls root _ hA) fun W1 hb_W1=> ?_
  refine bef0 hb_W1 hA hF ?_;clear hb_W1 hA hF;intro z_W1 hA hF
  unfold Parts.val
  rw [hvi]
  go_wp2_with fail
  refine calls_gen fun V2 hV_V2=> ?_
  refine nnf0 hV_V2 hA hF ?_;clear hA hF;intro hn_V2 z_V2 hA hF
  obtain ⟨kp,c_kp,o_kp,l_kpV2⟩:=nN hn_V2 hV_V2 (W1.heap.size)
  clear hV_V2 hn_V2
  refine rC (tPlace_calls _ id l Hl.out Hll.out _ hA) fun W3 hb_W3=> ?_
  refine bef1 hb_W3 hA hF kp ?_;clear hb_W3 hA hF kp c_kp;intro z_W3 hA hF kp c_kp
  rw [hpl]
  go_wp2_with fail
  refine (symText_calls t _).mono ?_
  rintro e4 w4 ⟨rfl,rfl⟩
  rw [d4]
  go_wp2_with fail
  refine cg fun V4 hV_V4=> ?_
  refine nef1 hV_V4 hA hF kp ?_;clear hA hF kp c_kp;intro z_V4 hA hF kp c_kp
  clear hV_V4
  refine rC (vDocs_calls root _ hA) fun W5 hb_W5=> ?_
  refine bef1 hb_W5 hA hF kp ?_;clear hb_W5 hA hF kp c_kp;intro z_W5 hA hF kp c_kp
  go_wp2_with fail
  refine cg fun V6 hV_V6=> ?_
  refine nef0 hV_V6 hA hF ?_;clear hA hF c_kp kp;intro z_V6 hA hF
  clear hV_V6
  refine wC (keep_calls _ _ hA) fun W7 O1 hA_W7 hf_W7=> ?_
  refine wif0 hf_W7 hF ?_;clear hA hF hf_W7;intro z_W7 hF;have hA:=hA_W7;clear hA_W7
  unfold strOf
  go_wp2_with fail
  go_ret2
  refine ⟨W7.heap.size,O1,rfl,by have:=hF.size;omega,?_,hF.alloc _⟩
  exact ⟨hA.alloc _,blk_new _ _ _ rfl,hA.new (Nat.le_refl _)⟩
end
section
open Go.RowKit Go.Sort
attribute [local go_sem ↓] Go.wp_at_zero Go.wp_at_succ
attribute [local go_sem] lt_s2 lt_s3 lt_s4 str_len
variable {ap : Value} {O : Nat → Prop} {tb : Nat}
theorem pSwap_calls (x : Pt) (i : Nat) (hi : i < 4) (r : Int × Int × Ar) (w : World) (hT : PB w tb ap { x with s := r.2.2 } O) :
    Calls Tryz.prog 231 #[.pointer (some ⟨tb,0,none⟩), .pointer (some ⟨tb,5+i,none⟩), .int .i64 r.1, .int .i64 r.2.1] w fun e w'=>e= .returned (.int .i64 (x.swap i r).1)∧DidP tb ap (x.swap i r).2 O w w':=by
  obtain ⟨h,e,s⟩:=r
  dsimp only at hT⊢
  by_cases he:e=0
  · subst he
    have E1:Hid (x.swap i (h,0,s)=(0,{x with s:=s.drop (x.p.at i),p:=x.p.put i h})):=Lib.hid (by unfold Pt.swap;rw [if_pos rfl])
    rw [E1.out]
    have h4:i=0∨i=1∨i=2∨i=3:=by omega
    clear hi E1
    rcases h4 with rfl|rfl|rfl|rfl<;>
    (skip
     go_enter Tryz.func231,Tryz.ntmps231
     have hA:=hT.hA
     have kt:=hT.blk
     have o_kt:=hT.no
     have c_kt:=f3 kt;have l_ktw:=lt_of kt
     go_wp2_with fail
     refine wg fun V hV_V=> ?_
     have hF:=Fr.refl ((oneX tb)) O w
     refine nef1 hV_V hA hF kt ?_;clear hA hF kt c_kt;intro z_V hA hF kt c_kt
     clear hV_V
     refine dr (fun v=>Sm v V (tb)∧(V.heap.size≤v.heap.size)∧True) ⟨fun _=>rfl,Nat.le_refl _,trivial⟩ fun Vd hV_Vd hHeld=> ?_
     have v_kt:=c_kt.1
     refine nef1 hV_Vd hA hF kt ?_;clear hA hF kt c_kt;intro z_Vd hA hF kt c_kt
     clear hV_Vd
     refine ta 0 hHeld ?_
     refine ta 1 hHeld ?_
     refine ta 2 hHeld ?_
     refine ta 3 hHeld ?_
     refine ta 4 hHeld ?_
     refine ta 5 hHeld ?_
     refine ta 6 hHeld ?_
     refine rd 7 rfl fun K hK=> ?_
     go_simp
     try simp only [IntWalk.i64_left]
     refine wC (drop_calls _ _ hA) fun W O1 hA_W hf_W=> ?_
     refine wif1 hf_W hF kt o_kt ?_;clear hA hF kt o_kt c_kt hf_W;intro z_W hF kt c_kt o_kt;have hA:=hA_W;clear hA_W
     refine ho hK ⟨vv c_kt v_kt,by omega,trivial⟩ fun hHeld=> ?_
     clear hK K
     refine wd ?_
     go_wp2_with fail
     go_ret
     refine ⟨rfl,?_⟩
     refine didp_gen (fun V2 hV_V2=> ?_)
     refine nef1 hV_V2 hA hF kt ?_;clear hA hF kt c_kt;intro z_V2 hA hF kt c_kt
     clear hV_V2
     exact ⟨_,⟨hA,kt,o_kt⟩,hF⟩
     done)
  · have d1:(e==0)=false:=by simpa using he
    have E1:Hid (x.swap i (h,e,s)=(e,{x with s:=s})):=Lib.hid (by unfold Pt.swap;rw [if_neg he])
    rw [E1.out]
    clear he
    go_enter Tryz.func231,Tryz.ntmps231
    have hA:=hT.hA
    have kt:=hT.blk
    have o_kt:=hT.no
    have c_kt:=f3 kt;have l_ktw:=lt_of kt
    go_wp2_with fail
    go_ret
    exact ⟨rfl,O,⟨hA,kt,o_kt⟩,Fr.refl _ _ _⟩
def Pt.drops (x:Pt) (l:List Int):Pt:={x with s:=x.s.dropAll l}
theorem pStop_calls (x : Pt) (w : World) (hT : PB w tb ap x O) :
    Calls Tryz.prog 149 #[.pointer (some ⟨tb,0,none⟩)] w fun e w'=>e= .returned (.tuple #[])∧DidP tb ap x.stop O w w':=by
  obtain ⟨l,hl⟩: ∃l,x.held=l:=⟨_,rfl⟩
  have hl5:l.length≤5:=by
    rw [←hl];unfold Pt.held
    split
    · simp
    · refine Nat.le_trans (List.length_filter_le _ _) ?_
      rw [(sortI_perm _).length_eq];simp
  have Hst:Hid (x.stop={x with s:=x.s.dropAll l,over:=true,p:=Parts.zero}):=Lib.hid (by unfold Pt.stop;rw [hl])
  go_enter Tryz.func149,Tryz.ntmps149
  go_wp2_with fail
  refine (pHeld_calls _ hT).mono ?_
  rintro e0 W0 ⟨v,rfl,hown,hb0⟩
  rw [hl] at hown
  have hF0:Fr (oneX tb) O O w W0:=(Fr.refl _ _ _).below hb0
  have hT0:PB W0 tb ap x O:=⟨hT.hA.below hb0,keep_blk hb0 hT.blk,hT.no⟩
  have HT0:=Lib.hid hT0;have HF0:=Lib.hid hF0
  have hrow:(v= .slice none 0 0∧l=[])∨ ∃g cap cs,v= .slice (some ⟨g,0,none⟩) l.length cap∧W0.heap[g]? =some (.cells cs 3 (0,0))∧(∀j (h:j<l.length),cs[j]? =some (.int .i64 l[j]))∧ ¬O g∧g≠tb:=by
    rcases hown.2 with ⟨h1,h2⟩|⟨g,cap,cur,h1,h2,h3,h4,h5,h6,h7⟩
    · exact .inl ⟨h1,List.length_eq_zero_iff.1 h2⟩
    · refine .inr ⟨g,cap,cur,h1,h3,fun j hj=> ?_,fun hO=> ?_,fun e=> ?_⟩
      · have:=congrArg (fun l=>l[j]?) h7
        simp only [Nat.mul_one,List.getElem?_take_of_lt hj,List.getElem?_map,List.getElem?_eq_getElem hj,Option.map_some] at this
        rw [←this];simp
      · have:=hT.hA.lt hO;omega
      · have:=lt_of hT.blk;omega
  clear hT hown hb0 hT0 hF0 hl
  rcases hrow with ⟨rfl,rfl⟩|⟨g,cap,cs,rfl,hcs,hcell,hov,hne⟩
  · have kt:=HT0.out.blk
    have c_kt:=f3 kt;have l_ktW0:=lt_of kt
    go_wp2_with fail
    go_loopw [7] (fun c wr=>c= .int .i64 0∧wr=W0) (fun _ _=>0)
    case atStart=>exact ⟨rfl,rfl⟩
    case round=>
      obtain ⟨rfl,rfl⟩:=hrel
      go_wp2_with fail
      go_end0
      rw [Hst.out]
      refine ⟨rfl,?_⟩
      have hA:=HT0.out.hA
      have o_kt:=HT0.out.no
      have hF:=HF0.out
      refine didp_gen (fun V2 hV_V2=> ?_)
      refine nef1 hV_V2 hA hF kt ?_;clear hA hF kt c_kt;intro z_V2 hA hF kt c_kt
      clear hV_V2
      exact ⟨_,⟨hA,kt,o_kt⟩,hF⟩
  · have kt:=HT0.out.blk
    have c_kt:=f3 kt;have l_ktW0:=lt_of kt
    have Hcell:=Lib.hid hcell
    clear hcell
    go_wp2_with fail
    go_loopw [7] (fun c wr=> ∃i:Nat,i≤l.length∧c= .int .i64 i∧wr.heap[g]? =some (.cells cs 3 (0,0))∧ ∃O',PB wr tb ap (x.drops (l.take i)) O'∧Fr (oneX tb) O O' w wr∧ ¬O' g) (fun c _=>l.length - (intOf c).toNat)
    case atStart=>exact ⟨0,Nat.zero_le _,rfl,hcs,O,HT0.out,HF0.out,hov⟩
    case round=>
      obtain ⟨i,hi,rfl,hcs',O',hT',hF',hov'⟩:=hrel
      clear kt c_kt
      by_cases hlt:i<l.length
      · have d1:decide (i<l.length)=true:=by simpa using hlt
        have cb:=cells_of hcs'
        have ci:wr.cell? ⟨g,i,none⟩=some (.int .i64 l[i]):=by rw [cb];exact Hcell.out i hlt
        have kt:=hT'.blk
        have HT:=Lib.hid hT';have HF:=Lib.hid hF'
        have HD:Hid ((x.drops (l.take (i+1))).s=((x.drops (l.take i)).s).drop l[i]):=Lib.hid (drop_take x.s l i hlt)
        clear hT' hF' cb
        have c_kt:=f3 kt;have l_ktwr:=lt_of kt
        go_wp2_with fail
        refine (drop_calls _ _ HT.out.hA).mono ?_
        rintro e w1 ⟨rfl,O1,hA1,hf1⟩
        clear kt c_kt
        go_wp2_with fail
        go_roundw
        case rel=>
          refine ⟨i+1,by omega,by go_num,hf1.keep hcs' hov' (fun h=>h),O1,⟨?_,hf1.keep HT.out.blk HT.out.no (fun h=>h),hf1.not_own (lt_of HT.out.blk) HT.out.no⟩,HF.out.trans hf1.widen,hf1.not_own (lt_of hcs') hov'⟩
          rw [HD.out];exact hA1
        case measure=>simp [intOf];omega
      · have d1:decide (i<l.length)=false:=by simpa using hlt
        obtain rfl:i=l.length:=by omega
        rw [List.take_length] at hT'
        have kt:=hT'.blk
        have hA:AP wr ap (x.s.dropAll l) O':=hT'.hA
        have o_kt:=hT'.no
        have hF:=hF'
        have c_kt:=f3 kt;have l_ktwr:=lt_of kt
        go_wp2_with fail
        go_end0
        rw [Hst.out]
        refine ⟨rfl,?_⟩
        refine didp_gen (fun V3 hV_V3=> ?_)
        replace kt:=kK hV_V3 kt
        exact ⟨O',⟨(nA hV_V3:AP V3 ap (x.s.dropAll l) O'),kt,o_kt⟩,nF hV_V3⟩
end
section
open Go.RowKit Go.Sort
attribute [local go_sem ↓] Go.wp_at_zero Go.wp_at_succ
attribute [local go_sem] lt_s2 lt_s3 lt_s4 str_len
variable {ap : Value} {O : Nat → Prop} {tb : Nat}
theorem pBegin_calls (x : Pt) (r : Int × Pt) (hr : x.begin = some r) (w : World) (hT : PB w tb ap x O) :
    Calls Tryz.prog 147 #[.pointer (some ⟨tb,0,none⟩)] w fun e w'=>e= .returned (.int .i64 r.1)∧DidP tb ap r.2 O w w':=by
  have Hr:=Lib.hid hr;clear hr
  go_enter Tryz.func147,Tryz.ntmps147
  have hA:=hT.hA
  have kt:=hT.blk
  have o_kt:=hT.no
  have c_kt:=f3 kt;have l_ktw:=lt_of kt
  go_wp2_with fail
  refine wg fun V hV_V=> ?_
  have hF:=Fr.refl ((oneX tb)) O w
  refine nef1 hV_V hA hF kt ?_;clear hA hF kt c_kt;intro z_V hA hF kt c_kt
  clear hV_V
  go_cut [3,4] from 3 (fun s3 s4 wx=> ∃B,s3= .pointer (some ⟨B,0,none⟩)∧s4= .bool (vIs x.s x.src)∧AP wx ap x.s O∧Fr (oneX tb) O O w wx∧wx.heap[tb]? =some (.cells #[ap, .int .i64 x.src, .int .i64 x.rate, .int .i64 x.id,strOf x.text, .int .i64 x.p.wave, .int .i64 x.p.marks, .int .i64 x.p.spots, .int .i64 x.p.table, .int .i64 x.pos, .int .i64 x.row, .bool x.begun, .bool x.over, .int .i64 x.root] 191 (0,0))∧wx.heap[B]? =some (.cells #[.int .i64 (vOf x.s x.src).wave, .int .i64 (vOf x.s x.src).marks, .int .i64 (vOf x.s x.src).spots, .int .i64 (vOf x.s x.src).table] 63 (0,0))∧ ¬O B∧B≠tb∧w.heap.size≤B)
  case first=>
    refine dr (fun v=>Sm v V (tb)∧(V.heap.size≤v.heap.size)∧AP v ap x.s O) ⟨fun _=>rfl,Nat.le_refl _,hA.drew⟩ fun Vd hV_Vd hHeld=> ?_
    have v_kt:=c_kt.1
    refine nef1 hV_Vd hA hF kt ?_;clear hA hF kt c_kt;intro z_Vd hA hF kt c_kt
    clear hV_Vd
    refine ta 0 hHeld ?_
    refine ta 1 hHeld ?_
    refine ta 2 hHeld ?_
    refine ta 3 hHeld ?_
    refine ta 4 hHeld ?_
    refine ta 5 hHeld ?_
    refine ta 6 hHeld ?_
    refine ta 7 hHeld ?_
    refine wpAnyH_ready (rs:=[8,12]) (by kernel_rfl) (by simp) (ready_at (i:=8) rfl (fun K hK=> ?_) (ready_at (i:=12) rfl (fun K hK=> ?_) AllReadyH.nil))
    · go_simp
      try simp only [IntWalk.i64_left]
      refine rC (vOf_calls x.src _ hA) fun W hb_W=> ?_
      refine bef1 hb_W hA hF kt ?_;clear hb_W hA hF kt c_kt;intro z_W hA hF kt c_kt
      refine ho hK ⟨vv c_kt v_kt,by omega,hA⟩ fun hHeld=> ?_
      clear hK K
      refine ta 9 hHeld ?_
      refine ta 10 hHeld ?_
      refine ta 11 hHeld ?_
      refine rd 12 rfl fun K hK=> ?_
      go_simp
      refine ga (K:=K) fun D hV_D=> ?_
      refine nnf1 hV_D hA hF kt ?_;clear hA hF kt c_kt;intro hn_D z_D hA hF kt c_kt
      obtain ⟨kn,c_kn,o_kn,l_knD⟩:=nN hn_D hV_D (W.heap.size)
      clear hV_D hn_D
      refine ho hK ⟨vv c_kt v_kt,by omega,hA⟩ fun hHeld=> ?_
      clear hK K
      unfold Parts.val
      refine rd 13 rfl fun K hK=> ?_
      go_simp
      refine ga (K:=K) fun D2 hV_D2=> ?_
      refine nef2 hV_D2 hA hF kt kn ?_;clear hA hF kt kn c_kt c_kn;intro z_D2 hA hF kt c_kt kn c_kn
      clear hV_D2
      refine ho hK ⟨vv c_kt v_kt,by omega,hA⟩ fun hHeld=> ?_
      clear hK K
      refine rd 14 rfl fun K hK=> ?_
      go_simp
      refine ho hK hHeld fun hHeld=> ?_
      clear hK K
      refine wd ?_
      go_wp2_with fail
      go_meet
      exact ⟨_,rfl,rfl,hA,hF,kt,kn,o_kn,by omega,by omega⟩
    · go_simp
      refine ga (K:=K) fun D hV_D=> ?_
      refine nnf1 hV_D hA hF kt ?_;clear hA hF kt c_kt;intro hn_D z_D hA hF kt c_kt
      obtain ⟨kn,c_kn,o_kn,l_knD⟩:=nN hn_D hV_D (Vd.heap.size)
      clear hV_D hn_D
      refine ho hK ⟨vv c_kt v_kt,by omega,hA⟩ fun hHeld=> ?_
      clear hK K
      refine rd 8 rfl fun K hK=> ?_
      go_simp
      try simp only [IntWalk.i64_left]
      refine rC (vOf_calls x.src _ hA) fun W hb_W=> ?_
      refine bef2 hb_W hA hF kt kn ?_;clear hb_W hA hF kt kn c_kt c_kn;intro z_W hA hF kt c_kt kn c_kn
      refine ho hK ⟨vv c_kt v_kt,by omega,hA⟩ fun hHeld=> ?_
      clear hK K
      unfold Parts.val
      refine ta 9 hHeld ?_
      refine ta 10 hHeld ?_
      refine ta 11 hHeld ?_
      refine rd 13 rfl fun K hK=> ?_
      go_simp
      refine ga (K:=K) fun D2 hV_D2=> ?_
      refine nef2 hV_D2 hA hF kt kn ?_;clear hA hF kt kn c_kt c_kn;intro z_D2 hA hF kt c_kt kn c_kn
      clear hV_D2
      refine ho hK ⟨vv c_kt v_kt,by omega,hA⟩ fun hHeld=> ?_
      clear hK K
      refine rd 14 rfl fun K hK=> ?_
      go_simp
      refine ho hK hHeld fun hHeld=> ?_
      clear hK K
      refine wd ?_
      go_wp2_with fail
      go_meet
      exact ⟨_,rfl,rfl,hA,hF,kt,kn,o_kn,by omega,by omega⟩
  case rest=>
    obtain ⟨q,hq⟩: ∃q,vOf x.s x.src=q:=⟨_,rfl⟩
    rw [hq] at hcut
    have hr:=Hr.out
    have hst:x.start={x with s:=keepP x.s q,p:=q,begun:=true,row:=lLen (keepP x.s q) q.table}:=by unfold Pt.start;rw [hq]
    unfold Pt.begin at hr
    rw [hst] at hr
    dsimp only at hr
    obtain ⟨a,ha,hr⟩:=Option.bind_eq_some_iff.1 hr
    split at hr
    rotate_left
    · cases hr
    rename_i hal
    obtain ⟨r1,hr1,rfl⟩:=Option.map_eq_some_iff.1 hr
    have Ha:=Lib.hid ha;have Hr1:=Lib.hid hr1;have Hal:=Lib.hid hal
    clear hA hF kt c_kt Hr hr hst ha hr1 hal z_V hq
    obtain ⟨B,rfl,rfl,hA,hF,kt,kn,o_kn,hne,hge⟩:=hcut
    have c_kt:=f3 kt;have l_ktwc:=lt_of kt
    have c_kn:=f3 kn;have l_knwc:=lt_of kn
    go_wp2_with fail
    refine wp_gen fun V2 hV_V2=> ?_
    refine nnf2 hV_V2 hA hF kt kn ?_;clear hA hF kt kn c_kt c_kn;intro hn_V2 z_V2 hA hF kt c_kt kn c_kn
    obtain ⟨kg,c_kg,o_kg,l_kgV2⟩:=nN hn_V2 hV_V2 (wc.heap.size)
    clear hV_V2 hn_V2
    obtain ⟨g,hg⟩: ∃g,wc.heap.size=g:=⟨_,rfl⟩
    rw [hg] at kg o_kg⊢
    have HF:=Lib.hid hF;have HA:=Lib.hid hA;have KT:=Lib.hid kt;have KN:=Lib.hid kn;have KG:=Lib.hid kg
    clear hF hA kt kn kg c_kt c_kn c_kg
    obtain ⟨l,hl⟩: ∃l,[q.wave,q.marks,q.spots,q.table]=l:=⟨_,rfl⟩
    have hl4:l.length=4:=by rw [←hl];rfl
    have Hcell:Hid (∀j (h:j<l.length),(#[Value.int .i64 q.wave, .int .i64 q.marks, .int .i64 q.spots, .int .i64 q.table]:Array Value)[j]? =some (.int .i64 l[j])):=Lib.hid (by subst hl;exact part_cell q)
    have Hl:=Lib.hid hl
    clear hl
    go_loopw [31] (fun c wr=> ∃i:Nat,i≤4∧c= .int .i64 i∧ ∃O',Hid (AP wr ap (keepL x.s (l.take i)) O'∧Fr (oneX tb) O O' w wr∧wr.heap[tb]? =some (.cells #[ap, .int .i64 x.src, .int .i64 x.rate, .int .i64 x.id,strOf x.text, .int .i64 x.p.wave, .int .i64 x.p.marks, .int .i64 x.p.spots, .int .i64 x.p.table, .int .i64 x.pos, .int .i64 x.row, .bool x.begun, .bool x.over, .int .i64 x.root] 191 (0,0))∧wr.heap[B]? =some (.cells #[.int .i64 q.wave, .int .i64 q.marks, .int .i64 q.spots, .int .i64 q.table] 63 (0,0))∧wr.heap[g]? =some (.cells #[.int .i64 q.wave, .int .i64 q.marks, .int .i64 q.spots, .int .i64 q.table] 3 (0,0))∧ ¬O' tb∧ ¬O' B∧ ¬O' g)) (fun c _=>4 - (intOf c).toNat)
    case atStart=>exact ⟨0,Nat.zero_le _,rfl,O,Lib.hid ⟨HA.out,HF.out,KT.out,KN.out,KG.out,o_kt,o_kn,o_kg⟩⟩
    case round=>
      obtain ⟨i,hi,rfl,O',HH⟩:=hrel
      obtain ⟨hA',hF',kt,kn,kg,ot,on,og⟩:=HH.out
      by_cases hlt':i<4
      · have d1:decide (i<4)=true:=by simpa using hlt'
        have cb:=cells_of kg
        have ci:wr.cell? ⟨g,i,none⟩=some (.int .i64 (l[i]'(by omega))):=by rw [cb];exact Hcell.out i (by omega)
        have HD:Hid (keepL x.s (l.take (i+1))=(keepL x.s (l.take i)).keep (l[i]'(by omega))):=Lib.hid (keep_take x.s l i (by omega))
        have KN:=Lib.hid kn;have KG:=Lib.hid kg;have HF':=Lib.hid hF'
        clear cb kn kg hF' HH
        have c_kt:=f3 kt;have l_ktwr:=lt_of kt
        go_wp2_with fail
        refine (keep_calls _ _ hA').mono ?_
        rintro e w1 ⟨rfl,O1,hA1,hf1⟩
        clear c_kt
        go_wp2_with fail
        go_roundw
        case rel=>
          refine ⟨i+1,by omega,by go_num,O1,Lib.hid ⟨by rw [HD.out];exact hA1,HF'.out.trans hf1.widen,hf1.keep kt ot (fun h=>h),hf1.keep KN.out on (fun h=>h),hf1.keep KG.out og (fun h=>h),hf1.not_own (lt_of kt) ot,hf1.not_own (lt_of KN.out) on,hf1.not_own (lt_of KG.out) og⟩⟩
        case measure=>simp [intOf];omega
      · have d1:decide (i<4)=false:=by simpa using hlt'
        obtain rfl:i=4:=by omega
        have hkl:keepL x.s (l.take 4)=keepP x.s q:=by rw [←Hl.out];rfl
        rw [hkl] at hA'
        have hA:=hA';have hF:=hF';have o_kt:=ot;have o_kn:=on
        clear hA' hF' kg og ot on HH HF HA KT KN KG
        have c_kt:=f3 kt;have l_ktwr:=lt_of kt
        have c_kn:=f3 kn;have l_knwr:=lt_of kn
        go_wp2_with fail
        refine wp_gen fun V3 hV_V3=> ?_
        refine nef2 hV_V3 hA hF kt kn ?_;clear hA hF kt kn c_kt c_kn;intro z_V3 hA hF kt c_kt kn c_kn
        clear hV_V3
        refine dr (fun v=>(v.cell? ⟨tb,0,none⟩=V3.cell? ⟨tb,0,none⟩)∧Sm v V3 (B)∧(V3.heap.size≤v.heap.size)∧True) ⟨rfl,fun _=>rfl,Nat.le_refl _,trivial⟩ fun V3d hV_V3d hHeld=> ?_
        have v_kt:=c_kt.1;have v_kn:=c_kn.1
        refine nef2 hV_V3d hA hF kt kn ?_;clear hA hF kt kn c_kt c_kn;intro z_V3d hA hF kt c_kt kn c_kn
        clear hV_V3d
        refine ta 0 hHeld ?_
        refine ta 1 hHeld ?_
        refine ta 2 hHeld ?_
        refine ta 3 hHeld ?_
        refine ta 4 hHeld ?_
        refine ta 5 hHeld ?_
        refine ta 6 hHeld ?_
        refine rd 7 rfl fun K hK=> ?_
        go_simp
        try simp only [IntWalk.i64_left]
        refine rC (tLen_calls _ _ hA) fun W3 hb_W3=> ?_
        refine bef2 hb_W3 hA hF kt kn ?_;clear hb_W3 hA hF kt kn c_kt c_kn;intro z_W3 hA hF kt c_kt kn c_kn
        refine ho hK ⟨vo c_kt v_kt 0,vv c_kn v_kn,by omega,trivial⟩ fun hHeld=> ?_
        clear hK K
        refine ta 8 hHeld ?_
        refine ta 9 hHeld ?_
        refine rd 10 rfl fun K hK=> ?_
        go_simp
        refine ga (K:=K) fun D3 hV_D3=> ?_
        refine nef2 hV_D3 hA hF kt kn ?_;clear hA hF kt kn c_kt c_kn;intro z_D3 hA hF kt c_kt kn c_kn
        clear hV_D3
        refine ho hK ⟨vo c_kt v_kt 0,vv c_kn v_kn,by omega,trivial⟩ fun hHeld=> ?_
        clear hK K
        refine wd ?_
        go_wp2_with fail
        refine wg fun V4 hV_V4=> ?_
        refine nef2 hV_V4 hA hF kt kn ?_;clear hA hF kt kn c_kt c_kn;intro z_V4 hA hF kt c_kt kn c_kn
        clear hV_V4
        refine dr (fun v=>Sm v V4 (tb)∧Sm v V4 (B)∧(V4.heap.size≤v.heap.size)∧True) ⟨fun _=>rfl,fun _=>rfl,Nat.le_refl _,trivial⟩ fun V4d hV_V4d hHeld=> ?_
        have v_kt:=c_kt.1;have v_kn:=c_kn.1
        refine nef2 hV_V4d hA hF kt kn ?_;clear hA hF kt kn c_kt c_kn;intro z_V4d hA hF kt c_kt kn c_kn
        clear hV_V4d
        refine ta 0 hHeld ?_
        refine ta 1 hHeld ?_
        refine ta 2 hHeld ?_
        refine ta 3 hHeld ?_
        refine ta 4 hHeld ?_
        refine ta 5 hHeld ?_
        refine ta 6 hHeld ?_
        refine ta 7 hHeld ?_
        refine ta 8 hHeld ?_
        refine ta 9 hHeld ?_
        refine ta 10 hHeld ?_
        refine ta 11 hHeld ?_
        refine ta 12 hHeld ?_
        refine ta 13 hHeld ?_
        refine ta 14 hHeld ?_
        refine rd 15 rfl fun K hK=> ?_
        go_simp
        try simp only [IntWalk.i64_left]
        refine wC (tAdd_calls q.table x.id x.text.length a Ha.out Hal.out r1 Hr1.out _ hA) fun W5 O5 hA_W5 hf_W5=> ?_
        refine wif2 hf_W5 hF kt o_kt kn o_kn ?_;clear hA hF kt o_kt kn o_kn c_kt c_kn hf_W5;intro z_W5 hF kt c_kt o_kt kn c_kn o_kn;have hA:=hA_W5;clear hA_W5
        refine ho hK ⟨vv c_kt v_kt,vv c_kn v_kn,by omega,trivial⟩ fun hHeld=> ?_
        clear hK K
        refine ta 16 hHeld ?_
        refine ta 17 hHeld ?_
        refine ta 18 hHeld ?_
        refine rd 19 rfl fun K hK=> ?_
        go_simp
        refine ho hK hHeld fun hHeld=> ?_
        clear hK K
        refine rd 20 rfl fun K hK=> ?_
        go_simp
        refine ho hK hHeld fun hHeld=> ?_
        clear hK K
        refine wd ?_
        go_wp2_with fail
        refine cg fun V6 hV_V6=> ?_
        refine nef1 hV_V6 hA hF kt ?_;clear hA hF kt c_kt c_kn kn;intro z_V6 hA hF kt c_kt
        clear hV_V6
        refine tC (pSwap_calls {x with s:=keepP x.s q,p:=q,begun:=true,row:=lLen (keepP x.s q) q.table} 3 (by omega) r1 _ ⟨hA,kt,o_kt⟩) fun W6 O6 hT hf=> ?_
        refine ti0 hT.hA hT.blk hT.no hf hF ?_;clear hA hF kt c_kt o_kt hT hf;intro z_W6 hA hF kt c_kt o_kt
        go_wp2_with fail
        go_ret
        exact ⟨rfl,O6,⟨hA,kt,o_kt⟩,hF⟩
end
section
open Go.RowKit Go.Sort
attribute [local go_sem ↓] Go.wp_at_zero Go.wp_at_succ
attribute [local go_sem] str_len
def Gr (w w':World):Prop:= ∃q os,w'=grow (w.drewN q) os
theorem Gr.refl (w:World):Gr w w:=⟨0,#[],(grow_empty _).symm⟩
theorem Gr.trans {a b c:World} (h1:Gr a b) (h2:Gr b c):Gr a c:=by
  obtain ⟨q,os,rfl⟩:=h1
  obtain ⟨q',os',rfl⟩:=h2
  exact ⟨q+q',os++os',by show grow (grow ((a.drewN q).drewN q') os) os'=_;rw [grow_grow,World.drewN_drewN]⟩
theorem Gr.alloc (w:World) (o:Obj):Gr w (w.alloc o):=⟨0,#[o],alloc_eq_grow w o⟩
theorem Gr.drewN (w:World) (q:Nat):Gr w (w.drewN q):=⟨q,#[],(grow_empty _).symm⟩
theorem Gr.below {w w':World} (h:Gr w w'):Below w.heap.size w w':=by
  obtain ⟨q,os,rfl⟩:=h
  exact ⟨rfl,rfl,rfl,by simp [grow,World.drewN],fun k hk=>by simp [grow,World.drewN,Array.getElem?_append,hk]⟩
theorem is_calls (v : Value) (ts : List (List UInt8)) (d a : Nat) (t : List UInt8) (ht : ts[d]? = some t) (ha : a ≤ t.length) (w : World) (h : Rk w 1 v ts.length (ts.map strOf)) :
    Calls Tryz.prog 275 #[v, .agg #[.int .i64 (d:Int), .int .i64 (a:Int)]] w fun e w'=>e= .returned (.bool true)∧Gr w w':=by
  obtain ⟨hd, -⟩:=List.getElem?_eq_some_iff.1 ht
  obtain ⟨h1,A,cap,rfl,h2⟩:=h
  obtain ⟨g,cs,T,rfl,kg,hcs⟩:=h2 (by omega)
  have hci:cs[d]? =some (strOf t):=by rw [hcs d (by omega),List.getElem?_map,ht];rfl
  have n1:(d:Int)<(ts.length:Int):=by omega
  have n2:(a:Int)≤(t.length:Int):=by omega
  clear h1 h2 hcs ht
  go_enter Tryz.func275,Tryz.ntmps275
  have c_kg:=f3 kg;have l_kgw:=lt_of kg
  go_wp2_with fail
  refine wp_gen fun V hV=> ?_
  have hG:Gr w V:=by rw [hV];exact Gr.alloc w _
  have kr:V.heap[w.heap.size]? =some (.cells #[.int .i64 (d:Int), .int .i64 (a:Int)] 136 (0,0)):=by rw [hV];exact blk_new _ _ _ rfl
  replace kg:=keep_blk hG.below kg
  clear hV c_kg
  have c_kg:=f3 kg;have l_kgV:=lt_of kg
  have c_kr:=f3 kr;have l_krV:=lt_of kr
  go_quiet (fail)
  go_wp2_with fail
  go_ret
  exact ⟨rfl,hG.trans (Gr.drewN _ _)⟩
theorem rless_calls (v : Value) (ts : List (List UInt8)) (d1 a1 d2 a2 : Nat) (t1 t2 : List UInt8) (ht1 : ts[d1]? = some t1) (ha1 : a1 ≤ t1.length) (ht2 : ts[d2]? = some t2) (ha2 : a2 ≤ t2.length) (hl1 : t1.length ≤ 50000) (r : Bool) (hr : lessL (decide (d1 < d2)) (t1.drop a1) (t2.drop a2) = r) (w : World) (h : Rk w 1 v ts.length (ts.map strOf)) :
    Calls Tryz.prog 223 #[v, .agg #[.int .i64 (d1:Int), .int .i64 (a1:Int)], .agg #[.int .i64 (d2:Int), .int .i64 (a2:Int)]] w fun e w'=>e= .returned (.bool r)∧Gr w w':=by
  obtain ⟨hd1, -⟩:=List.getElem?_eq_some_iff.1 ht1
  obtain ⟨hd2, -⟩:=List.getElem?_eq_some_iff.1 ht2
  obtain ⟨h1,A,cap,rfl,h2⟩:=h
  obtain ⟨g,cs,T,rfl,kg,hcs⟩:=h2 (by omega)
  have hc1:cs[d1]? =some (strOf t1):=by rw [hcs d1 (by omega),List.getElem?_map,ht1];rfl
  have hc2:cs[d2]? =some (strOf t2):=by rw [hcs d2 (by omega),List.getElem?_map,ht2];rfl
  have n1:(d1:Int)<(ts.length:Int):=by omega
  have n2:(d2:Int)<(ts.length:Int):=by omega
  have f1:=str_from t1 a1 ha1
  have f2:=str_from t2 a2 ha2
  have HR:=Lib.hid hr;clear hr
  have Hcs:=Lib.hid hcs;have H1:=Lib.hid h1;have HT1:=Lib.hid ht1;have HT2:=Lib.hid ht2;have HA1:=Lib.hid ha1;have HA2:=Lib.hid ha2
  clear h1 h2 hcs ht1 ht2 hd1 hd2 ha1 ha2
  obtain ⟨s,hs⟩: ∃s,t1.drop a1=s:=⟨_,rfl⟩
  obtain ⟨t,ht⟩: ∃t,t2.drop a2=t:=⟨_,rfl⟩
  have hs0:s.length≤50000:=by rw [←hs,List.length_drop];omega
  rw [hs] at f1 HR
  rw [ht] at f2 HR
  clear hs ht
  go_enter Tryz.func223,Tryz.ntmps223
  have c_kg:=f3 kg;have l_kgw:=lt_of kg
  go_wp2_with fail
  refine wp_scope_ghost 0 (fun n a' wr=> ∃(i:Nat),(i+n=s.length+1∧i≤s.length∧i≤t.length∧Hid (lessL (decide (d1<d2)) (s.drop i) (t.drop i)=r)∧wr.heap[w.heap.size]? =some (.cells #[.int .i64 (d1:Int), .int .i64 (a1:Int)] 136 (0,0))∧wr.heap[w.heap.size+1]? =some (.cells #[.int .i64 (d2:Int), .int .i64 (a2:Int)] 136 (0,0))∧Gr w wr)∧ ∃u0 u1 u2 u3 u6 u10 u11 u12 u13 u14 u15 u16 u17 u18 u19 u20 u21 u22 u23 u24 u25 u26 u27 u28 u29 u30 u31 u32 u33 u34 u35 u36 u37 u38 u39 u40 u41 u42 u43 u44 u45 u46 u47 u48 u49 u50 u51 u52 u53 u54 u55 u56 u57 u58 u59 u60 u61 u62 u63 u64 u65 u66 u67 u68 u69 u70 u71 u72 u73 u74 u75 u76 u77 u78:Value,a'={tmps:= #[u0,u1,u2,u3,(.pointer (some ⟨w.heap.size,0,none⟩):Value),(.pointer (some ⟨w.heap.size+1,0,none⟩):Value),u6,(strOf s:Value),(strOf t:Value),(.int .i64 (i:Int):Value),u10,u11,u12,u13,u14,u15,u16,u17,u18,u19,u20,u21,u22,u23,u24,u25,u26,u27,u28,u29,u30,u31,u32,u33,u34,u35,u36,u37,u38,u39,u40,u41,u42,u43,u44,u45,u46,u47,u48,u49,u50,u51,u52,u53,u54,u55,u56,u57,u58,u59,u60,u61,u62,u63,u64,u65,u66,u67,u68,u69,u70,u71,u72,u73,u74,u75,u76,u77,u78],defers:=[]}) (by rfl) ?first ?pass
  case first=>
    intro hrest
    go_wp2_with fail
    refine calls_gen fun V hV=> ?_
    have hG:Gr w V:=by rw [hV];exact (Gr.alloc _ _).trans (Gr.alloc _ _)
    have ka:V.heap[w.heap.size]? =some (.cells #[.int .i64 (d1:Int), .int .i64 (a1:Int)] 136 (0,0)):=by rw [hV];exact keep_blk (Gr.alloc _ _).below (blk_new _ _ _ rfl)
    have kb:V.heap[w.heap.size+1]? =some (.cells #[.int .i64 (d2:Int), .int .i64 (a2:Int)] 136 (0,0)):=by rw [hV];exact blk_new _ _ _ (siz_alloc _ _).symm
    replace kg:=keep_blk hG.below kg
    clear hV c_kg
    have c_kg:=f3 kg;have l_kgV:=lt_of kg
    have c_ka:=f3 ka;have l_kaV:=lt_of ka
    have c_kb:=f3 kb;have l_kbV:=lt_of kb
    refine (is_calls _ ts d1 a1 t1 HT1.out HA1.out _ ⟨H1.out,_,_,rfl,fun _=>⟨g,cs,T,rfl,kg,Hcs.out⟩⟩).mono ?_
    rintro e1 W1 ⟨rfl,hG1⟩
    replace kg:=keep_blk hG1.below kg;replace ka:=keep_blk hG1.below ka;replace kb:=keep_blk hG1.below kb
    replace hG:=hG.trans hG1
    clear hG1 c_kg c_ka c_kb
    have c_kg:=f3 kg;have l_kgW1:=lt_of kg
    have c_ka:=f3 ka;have l_kaW1:=lt_of ka
    have c_kb:=f3 kb;have l_kbW1:=lt_of kb
    go_wp2_with fail
    refine (is_calls _ ts d2 a2 t2 HT2.out HA2.out _ ⟨H1.out,_,_,rfl,fun _=>⟨g,cs,T,rfl,kg,Hcs.out⟩⟩).mono ?_
    rintro e2 W2 ⟨rfl,hG2⟩
    replace kg:=keep_blk hG2.below kg;replace ka:=keep_blk hG2.below ka;replace kb:=keep_blk hG2.below kb
    replace hG:=hG.trans hG2
    clear hG2 c_kg c_ka c_kb
    have c_kg:=f3 kg;have l_kgW2:=lt_of kg
    have c_ka:=f3 ka;have l_kaW2:=lt_of ka
    have c_kb:=f3 kb;have l_kbW2:=lt_of kb
    go_wp2_with fail
    go_quiet (fail)
    clear f1 f2 hc1 hc2 n1 n2 Hcs H1 HT1 HT2 HA1 HA2
    go_wp2_with fail
    go_step3
    go_step
    go_step
    refine hrest (s.length+1) _ _ ⟨0,⟨by omega,by omega,by omega,HR,ka,kb,hG.trans (Gr.drewN _ _)⟩,?_⟩
    exact ⟨_,_,_,_,_,_,_,_,_,_,_,_,_,_,_,_,_,_,_,_,_,_,_,_,_,_,_,_,_,_,_,_,_,_,_,_,_,_,_,_,_,_,_,_,_,_,_,_,_,_,_,_,_,_,_,_,_,_,_,_,_,_,_,_,_,_,_,_,_,_,_,_,_,_,rfl⟩
  case pass=>
    rintro n a' wr ⟨i,⟨hk,hi1,hi2,Hl,ka,kb,hG⟩,u0,u1,u2,u3,u6,u10,u11,u12,u13,u14,u15,u16,u17,u18,u19,u20,u21,u22,u23,u24,u25,u26,u27,u28,u29,u30,u31,u32,u33,u34,u35,u36,u37,u38,u39,u40,u41,u42,u43,u44,u45,u46,u47,u48,u49,u50,u51,u52,u53,u54,u55,u56,u57,u58,u59,u60,u61,u62,u63,u64,u65,u66,u67,u68,u69,u70,u71,u72,u73,u74,u75,u76,u77,u78,rfl⟩ J hJ
    clear f1 f2 hc1 hc2 n1 n2 Hcs H1 HT1 HT2 HA1 HA2 HR kg c_kg
    have c_ka:=f3 ka;have l_kawr:=lt_of ka
    have c_kb:=f3 kb;have l_kbwr:=lt_of kb
    by_cases c1:i=s.length
    · have e1:s.drop i=[]:=by rw [c1];simp
      by_cases c2:i=t.length
      · have e2:t.drop i=[]:=by rw [c2];simp
        have hl:=Hl.out
        rw [e1,e2] at hl
        unfold lessL at hl
        have hL:=Lib.hid hl
        have q1:((i:Int)==(s.length:Int))=true:=by rw [c1];exact beq_self_eq_true _
        have q2:((i:Int)==(t.length:Int))=true:=by rw [c2];exact beq_self_eq_true _
        clear hl Hl e1 e2 hk hi1 hi2 c1 c2
        go_wp2_with fail
        simp only [Exit.jump]
        go_ret
        exact ⟨by rw [←hL.out];first|rfl|simp,hG⟩
      · obtain ⟨y,hy⟩:=at_some (show i<t.length by omega)
        have e2:=drop_at hy
        clear hy
        have hl:=Hl.out
        rw [e1,e2] at hl
        unfold lessL at hl
        have hL:=Lib.hid hl
        have q1:((i:Int)==(s.length:Int))=true:=by rw [c1];exact beq_self_eq_true _
        have q2:((i:Int)==(t.length:Int))=false:=by rw [beq_eq_false_iff_ne];omega
        clear hl Hl e1 e2 hk hi1 hi2 c1 c2
        go_wp2_with fail
        simp only [Exit.jump]
        go_ret
        exact ⟨by rw [←hL.out];rfl,hG⟩
    · have q1:((i:Int)==(s.length:Int))=false:=by rw [beq_eq_false_iff_ne];omega
      obtain ⟨x,hx⟩:=at_some (show i<s.length by omega)
      have e1:=drop_at hx
      by_cases c2:i=t.length
      · have e2:t.drop i=[]:=by rw [c2];simp
        have hl:=Hl.out
        rw [e1,e2] at hl
        unfold lessL at hl
        have hL:=Lib.hid hl
        have q2:((i:Int)==(t.length:Int))=true:=by rw [c2];exact beq_self_eq_true _
        clear hl Hl e1 e2 hk hi1 hi2 c1 c2 hx
        go_wp2_with fail
        simp only [Exit.jump]
        go_ret
        exact ⟨by rw [←hL.out];rfl,hG⟩
      · have q2:((i:Int)==(t.length:Int))=false:=by rw [beq_eq_false_iff_ne];omega
        obtain ⟨y,hy⟩:=at_some (show i<t.length by omega)
        have e2:=drop_at hy
        have g1:=str_index s i x hx
        have g2:=str_index t i y hy
        have hl:=Hl.out
        rw [e1,e2] at hl
        unfold lessL at hl
        have hi1':i<s.length:=by omega
        have hi2':i<t.length:=by omega
        clear Hl e1 e2 hx hy c1 c2
        by_cases c3:x=y
        · rw [if_pos c3] at hl
          subst c3
          have hL:=Lib.hid hl
          have Hk:=Lib.hid hk;have Hi:=Lib.hid (And.intro hi1' hi2')
          have e3:wrap64 ((i:Int)+1)=((i+1:Nat):Int):=(IntWalk.wrap64_in _ (by omega)).trans (by omega)
          clear hl hk hi1 hi2 hi1' hi2'
          go_wp2_with fail
          go_quiet (fail)
          go_wp2_with fail
          rw [e3]
          go_step3
          refine ⟨rfl,hJ _ _ ⟨n - 1,by have:=Hk.out;have:=Hi.out;omega,i+1,⟨by have:=Hk.out;have:=Hi.out;omega,by have:=Hi.out;omega,by have:=Hi.out;omega,hL,ka,kb,hG.trans (Gr.drewN _ _)⟩,?_⟩⟩
          exact ⟨_,_,_,_,_,_,_,_,_,_,_,_,_,_,_,_,_,_,_,_,_,_,_,_,_,_,_,_,_,_,_,_,_,_,_,_,_,_,_,_,_,_,_,_,_,_,_,_,_,_,_,_,_,_,_,_,_,_,_,_,_,_,_,_,_,_,_,_,_,_,_,_,_,_,rfl⟩
        · rw [if_neg c3] at hl
          have hL:=Lib.hid hl
          have q3:((x.toNat:Int)==(y.toNat:Int))=false:=by
            rw [beq_eq_false_iff_ne];intro h;exact c3 (UInt8.toNat_inj.1 (by omega))
          clear hl hk hi1 hi2 hi1' hi2' c3
          go_wp2_with fail
          go_quiet (fail)
          go_wp2_with fail
          refine wp_gen fun V6 hV6=> ?_
          have hG6:Gr w V6:=by rw [hV6];exact hG.trans (Gr.drewN _ _)
          have ka6:=(congrArg (fun v:World=>v.heap[w.heap.size]?) hV6).trans ka
          have kb6:=(congrArg (fun v:World=>v.heap[w.heap.size+1]?) hV6).trans kb
          clear hV6 c_ka c_kb
          have c_ka6:=f3 ka6;have l_ka6V6:=lt_of ka6
          have c_kb6:=f3 kb6;have l_kb6V6:=lt_of kb6
          go_quiet (fail)
          go_wp2_with fail
          simp only [Exit.jump]
          go_ret
          exact ⟨by rw [←hL.out];first|rfl|simp,hG6.trans (Gr.drewN _ _)⟩
theorem cmpR_calls (v : Value) (ts : List (List UInt8)) (h5 : ∀ t, t ∈ ts → t.length ≤ 50000) (x y : RowT ts) (bl : Nat) (w : World) (kl : w.heap[bl]? = some (.cells #[v] 75 (0, 0))) (h : Rk w 1 v ts.length (ts.map strOf)) :
    Calls Tryz.prog 222 #[.agg #[.int .i64 (x.1.1:Int), .int .i64 (x.1.2:Int)], .agg #[.int .i64 (y.1.1:Int), .int .i64 (y.1.2:Int)], .pointer (some ⟨bl,0,none⟩)] w fun e w'=>e= .returned (.int .i64 (cmpR ts x y))∧Gr w w':=by
  obtain ⟨x,t1,ht1,ha1⟩:=x
  obtain ⟨y,t2,ht2,ha2⟩:=y
  dsimp only
  have hr:lessL (decide (x.1<y.1)) (t1.drop x.2) (t2.drop y.2)=refLess ts x y:=by unfold refLess;rw [getD_at ht1,getD_at ht2]
  have h5':=h5 _ (List.mem_of_getElem? ht1)
  unfold cmpR
  dsimp only
  generalize refLess ts x y=r at hr⊢
  have HK:=Lib.hid h;have Hr:=Lib.hid hr;have HT1:=Lib.hid ht1;have HT2:=Lib.hid ht2;have HA1:=Lib.hid ha1;have HA2:=Lib.hid ha2
  clear h hr ht1 ht2 ha1 ha2 h5
  obtain ⟨d1,a1⟩:=x
  obtain ⟨d2,a2⟩:=y
  dsimp only at HT1 HT2 HA1 HA2 Hr⊢
  go_enter Tryz.func222,Tryz.ntmps222
  have c_kl:=f3 kl;have l_klw:=lt_of kl
  go_wp2_with fail
  refine calls_gen fun V hV=> ?_
  have hG:Gr w V:=by rw [hV];exact (Gr.alloc _ _).trans (Gr.alloc _ _)
  clear hV
  refine (rless_calls v ts d1 a1 d2 a2 t1 t2 HT1.out HA1.out HT2.out HA2.out h5' r Hr.out _ (HK.out.below hG.below)).mono ?_
  rintro e1 W1 ⟨rfl,hG1⟩
  cases r with
  | true=>
    go_wp2_with fail
    go_ret
    exact ⟨rfl,hG.trans hG1⟩
  | false=>
    go_wp2_with fail
    go_ret
    exact ⟨rfl,hG.trans hG1⟩
end
section
open Go.RowKit Go.Sort Go.Shelf
attribute [local go_sem ↓] Go.wp_at_zero Go.wp_at_succ
attribute [local go_sem] str_len
theorem sortK_below {α:Type} [Inhabited α] (enc:α→List Value) (k:Nat) {W:World} {base g m:Nat} (d:Array α) (os:Array Obj) (hb:base≤g) (hW:base≤W.heap.size):Below base W (sortWorldK enc k W g 0 m d os):=by
  unfold sortWorldK putRowK putRow mapBlock grow Sort.ahead
  refine ⟨rfl,rfl,rfl,by simp,fun n hn=> ?_⟩
  show (W.heap.modify g _++os)[n]? =W.heap[n]?
  rw [Array.getElem?_append_left (by rw [Array.size_modify];omega),Array.getElem?_modify,if_neg (by omega)]
theorem sortK_cells {α : Type} [Inhabited α] (enc : α → List Value) (k : Nat) {W : World} {g m : Nat} {cur : Array Value} {T : TypeId} (hg : W.heap[g]? = some (.cells cur T (0, 0))) (d d' : Array α) (os : Array Obj) (hH : HoldsK enc k W g 0 d) (hs : d'.size = d.size) :
    ∃cs,(sortWorldK enc k W g 0 m d' os).heap[g]? =some (.cells cs T (0,0))∧ ∀j,j<d'.size*k→cs[j]? =some ((flatK enc k d')[j]!):=by
  have hlt:=lt_of hg
  have h0:(sortWorldK enc k W g 0 m d' os).heap[g]? =some (.cells (putCells id 0 (flatK enc k d') cur) T (0,0)):=by
    unfold sortWorldK putRowK putRow mapBlock grow Sort.ahead
    show (W.heap.modify g _++os)[g]? =_
    rw [Array.getElem?_append_left (by rw [Array.size_modify];exact hlt),Array.getElem?_modify,if_pos rfl,hg];rfl
  refine ⟨_,h0,fun j hj=> ?_⟩
  have hc:=(hH j (by rw [size_flatK,←hs];exact hj)).1
  rw [Nat.zero_add,cells_of hg] at hc
  have hsz:j<cur.size:=by
    rcases Nat.lt_or_ge j cur.size with h|h
    · exact h
    · rw [Array.getElem?_eq_none h] at hc;cases hc
  unfold putCells
  rw [Array.getElem?_mapIdx,Array.getElem?_eq_getElem hsz]
  simp [size_flatK,hj]
def encR {ts:List (List UInt8)} (x:RowT ts):List Value:=[.int .i64 (x.1.1:Int), .int .i64 (x.1.2:Int)]
theorem flat_rows {ts:List (List UInt8)} (d:List (RowT ts)) [Inhabited (RowT ts)] (j:Nat) (hj:j<d.length*2):some ((flatK (encR (ts:=ts)) 2 d.toArray)[j]!)=(rowCells (d.map (·.1)))[j]? :=by
  rw [get_flatK _ _ _ _ (by simpa using hj)]
  have hi:j/2<d.length:=by omega
  have hx:(d.map (·.1))[j/2]? =some (d[j/2]).1:=by rw [List.getElem?_map,List.getElem?_eq_getElem hi];rfl
  have hd:d.toArray[j/2]! =d[j/2]:=by simp [hi]
  rw [hd]
  obtain ⟨a,b⟩:=rowCells_at hx
  rcases Nat.mod_two_eq_zero_or_one j with h|h
  · rw [h,show (encR d[j/2])[0]! = .int .i64 ((d[j/2]).1.1:Int) from rfl,←a];congr 1;omega
  · rw [h,show (encR d[j/2])[1]! = .int .i64 ((d[j/2]).1.2:Int) from rfl,←b];congr 1;omega
theorem swoR (ts:List (List UInt8)):SWO (ltOf (cmpR ts)) where
  irrefl x:=by unfold ltOf;rw [lt_cmpR];exact rl_irr ts x.1
  trans x y z h1 h2:=by unfold ltOf at*;rw [lt_cmpR] at*;exact rl_trans h1 h2
  ntrans x y z h1 h2:=by
    unfold ltOf at*;rw [lt_cmpR] at*
    cases h:refLess ts x.1 z.1 with
    | false=>rfl
    | true=>
      cases h3:refLess ts y.1 x.1 with
      | true=>rw [rl_trans h3 h] at h2;cases h2
      | false=>
        have e:=rl_total x.2 y.2 h1 h3
        rw [e,h2] at h;cases h
theorem totR (ts:List (List UInt8)) (x y:RowT ts) (h1:ltOf (cmpR ts) x y=false) (h2:ltOf (cmpR ts) y x=false):x=y:=by
  unfold ltOf at*;rw [lt_cmpR] at*
  exact Subtype.ext (rl_total x.2 y.2 h1 h2)
theorem merge_all (ts : List (List UInt8)) (h : ∀ x, x ∈ upto ts ts.length 0 → RowIn ts x) :
    ((rowsT ts (upto ts ts.length 0) h).mergeSort fun x y=> !ltOf (cmpR ts) y x).map (·.1)=refFold ts (upto ts ts.length 0):=by
  have hp:=List.mergeSort_perm (rowsT ts (upto ts ts.length 0) h) fun x y=> !ltOf (cmpR ts) y x
  have hs:=List.pairwise_mergeSort (le:=fun x y=> !ltOf (cmpR ts) y x) (fun a b c h1 h2=>by
    simp only [Bool.not_eq_true',Bool.not_eq_eq_eq_not,Bool.not_true] at*
    exact (swoR ts).ntrans c b a h2 h1) (fun a b=>by
    cases h1:ltOf (cmpR ts) b a with
    | false=>rfl
    | true=>
      have:ltOf (cmpR ts) a b=false:=by unfold ltOf at*;rw [lt_cmpR] at*;exact rl_asymm h1
      rw [this];rfl) (rowsT ts (upto ts ts.length 0) h)
  generalize (rowsT ts (upto ts ts.length 0) h).mergeSort (fun x y=> !ltOf (cmpR ts) y x)=M at hp hs
  have hpm:=hp.map (·.1)
  rw [rowsT_val] at hpm
  have hn:(M.map (·.1)).Nodup:=hpm.nodup_iff.2 (upto_nodup ts _ _)
  refine srt_unique (ts:=ts) ?_ (all_sorted ts) (hpm.trans (all_perm ts).symm)
  refine List.pairwise_map.2 ?_
  have hnd:=List.pairwise_map.1 hn
  refine hs.imp₂ ?_ hnd
  intro a b h1 h2
  simp only [Bool.not_eq_true',Bool.not_eq_eq_eq_not,Bool.not_true] at h1
  unfold ltOf at h1
  rw [lt_cmpR] at h1
  cases h3:refLess ts a.1 b.1 with
  | true=>rfl
  | false=>exact absurd (rl_total a.2 b.2 h3 h1) h2
theorem right_gives (W:World) (t:List UInt8):FnGives Tryz.prog 225 #[] #[strOf t] (.bool (!decide (t.length≤40))) W:=by
  unfold FnGives
  show Calls Tryz.prog 225 #[strOf t] W _
  have h:=str_len t
  by_cases h4:t.length≤40
  · have n1:(t.length:Int)≤40:=by omega
    rw [decide_eq_true h4]
    go_enter Tryz.func225,Tryz.ntmps225
    go_wp2
    go_ret
    exact ⟨rfl,0,rfl⟩
  · have n1: ¬(t.length:Int)≤40:=by omega
    rw [decide_eq_false h4]
    go_enter Tryz.func225,Tryz.ntmps225
    go_wp2
    go_ret
    exact ⟨rfl,0,rfl⟩
theorem right_eq (ts:List (List UInt8)):refRight ts=(decide (ts.length≤10)&& !ts.any fun t=> !decide (t.length≤40)):=by
  unfold refRight
  rw [Bool.and_comm]
  congr 1
  induction ts with
  | nil=>rfl
  | cons t ts ih=>rw [List.all_cons,List.any_cons,ih,Bool.not_or,Bool.not_not]
theorem rowsRight_calls (v : Value) (ts : List (List UInt8)) (hn : ts.length ≤ 50000) (w : World) (h : Rk w 1 v ts.length (ts.map strOf)) :
    Calls Tryz.prog 127 #[v] w fun e w'=>e= .returned (.bool (refRight ts))∧Below w.heap.size w w':=by
  rw [right_eq]
  have eg: ∀args w,(callFunc 225 args).run Tryz.prog w= .ok (.enter 225 args) w:=enters_of Tryz.func225 (by kernel_rfl) rfl
  obtain ⟨h1,A,cap,rfl,h2⟩:=h
  have hcon:Calls Tryz.prog 224 #[.slice A ts.length cap, .func (.func 225) #[] #[]] w fun e w'=>e= .returned (.bool (ts.any fun t=> !decide (t.length≤40)))∧Below w.heap.size w w':=by
    by_cases h0:0<ts.length
    · obtain ⟨g,cs,T,rfl,hg,hc⟩:=h2 h0
      have hcon:=AnyE.slices_ContainsFunc Tryz.layHasStr strOf (fun t=> !decide (t.length≤40)) 225 #[] eg g 0 ts.length cap ts w (fun W t _=>right_gives W t) (Nat.le_refl _) (by omega) (fun j hj=>by
        rw [Nat.zero_add,cells_of hg,hc j (by omega),List.getElem?_map,List.getElem?_eq_getElem hj,getElem!_pos ts j hj];rfl)
      refine Calls.mono hcon ?_
      rintro e w' ⟨rfl,q,rfl⟩
      rw [List.take_length]
      exact ⟨rfl,below_drewN (Below.refl _ _) q⟩
    · have hz:ts=[]:=List.length_eq_zero_iff.1 (by omega)
      subst hz
      have hcon:=AnyE.slices_ContainsFunc_empty Tryz.layHasStr A cap (.func (.func 225) #[] #[]) w
      refine Calls.mono hcon ?_
      rintro e w' ⟨rfl,rfl⟩
      exact ⟨rfl,Below.refl _ _⟩
  clear h1 h2 eg
  generalize (ts.any fun t=> !decide (t.length≤40))=r at hcon⊢
  by_cases h10:ts.length≤10
  · have n1:(ts.length:Int)≤10:=by omega
    rw [decide_eq_true h10]
    go_enter Tryz.func127,Tryz.ntmps127
    cases r with
    | true=>
      go_wp2_with (go_at_call 224;refine hcon.mono ?_;rintro e w' ⟨rfl,hb⟩)
      go_ret
      exact ⟨rfl,hb⟩
    | false=>
      go_wp2_with (go_at_call 224;refine hcon.mono ?_;rintro e w' ⟨rfl,hb⟩)
      go_ret
      exact ⟨rfl,hb⟩
  · have n1: ¬(ts.length:Int)≤10:=by omega
    rw [decide_eq_false h10]
    go_enter Tryz.func127,Tryz.ntmps127
    go_wp2_with fail
    go_ret
    exact ⟨rfl,Below.refl _ _⟩
end
section
open Go.RowKit Go.Sort Go.Shelf
attribute [local go_sem ↓] Go.wp_at_zero Go.wp_at_succ
attribute [local go_sem] str_len
theorem sort_calls {ts : List (List UInt8)} (hts : ∀ t, t ∈ ts → t.length ≤ 50000) {v : Value} {b0 bl g cap : Nat} {cur : Array Value} {W0 W : World} {T : TypeId} (hb : W0.heap.size ≤ g) (hB : Below W0.heap.size W0 W)
    (kl:W0.heap[bl]? =some (.cells #[v] T (0,0))) (hT:T=75) (hK:Rk W0 1 v ts.length (ts.map strOf)) (hg:W.heap[g]? =some (.cells cur 136 (0,0))) (hl:0<(upto ts ts.length 0).length) (hl5:(upto ts ts.length 0).length≤500)
    (hc: ∀j,j<(upto ts ts.length 0).length*2→W.cell? ⟨g,j,none⟩=(rowCells (upto ts ts.length 0))[j]?):
    Calls Tryz.prog 221 #[.slice (some ⟨g,0,none⟩) (upto ts ts.length 0).length cap, .func (.func 222) #[] #[.pointer (some ⟨bl,0,none⟩)]] W fun e w'=>
      e= .returned (.tuple #[])∧Below W0.heap.size W w'∧ ∃cs,w'.heap[g]? =some (.cells cs 136 (0,0))∧ ∀j,j<(upto ts ts.length 0).length*2→cs[j]? =(rowCells (refFold ts (upto ts ts.length 0)))[j]? :=by
  subst hT
  have hin: ∀x,x∈upto ts ts.length 0→RowIn ts x:=fun x h=>upto_in h
  obtain ⟨x0,hx0⟩: ∃x,(upto ts ts.length 0)[0]? =some x:=⟨_,List.getElem?_eq_getElem hl⟩
  haveI:Inhabited (RowT ts):=⟨⟨x0,hin x0 (List.mem_of_getElem? hx0)⟩⟩
  have eg: ∀args w,(callFunc 222 args).run Tryz.prog w= .ok (.enter 222 args) w:=enters_of Tryz.func222 (by kernel_rfl) rfl
  have hlt:=lt_of hg
  have hW:W0.heap.size≤W.heap.size:=hB.size
  have hlen:(rowsT ts (upto ts ts.length 0) hin).length=(upto ts ts.length 0).length:=by unfold rowsT;simp
  have hH:HoldsK (encR (ts:=ts)) 2 W g 0 (rowsT ts (upto ts ts.length 0) hin).toArray:=fun j hj=>by
    rw [size_flatK,List.size_toArray,hlen] at hj
    rw [Nat.zero_add]
    refine ⟨?_,free_of hg _⟩
    have:=flat_rows (rowsT ts (upto ts ts.length 0) hin) j (by rw [hlen];exact hj)
    rw [rowsT_val] at this
    rw [hc j hj,←this];rfl
  have hcmp:CmpLays Tryz.prog 222 #[.pointer (some ⟨bl,0,none⟩)] (encR (ts:=ts)) 2 (cmpR ts) g 0 (rowsT ts (upto ts ts.length 0) hin).toArray.size W:=fun m os dk _ x y=>by
    have hBs:Below W0.heap.size W0 (sortWorldK encR 2 W g 0 m dk os):=hB.trans (sortK_below encR 2 dk os hb hW)
    exact (cmpR_calls v ts hts x y bl _ (keep_blk hBs kl) (hK.below hBs)).mono fun e w' h=>⟨h.1,h.2⟩
  have hcon:=AnyQ.slices_SortFunc_total Tryz.laySort 2 Tryz.isAgg136 Tryz.sizeOf136 (encR (ts:=ts)) (fun _=>rfl) (fun x u hu=>by simp [encR] at hu;rcases hu with rfl|rfl<;>rfl) (cmpR ts) (swoR ts) 222 #[.pointer (some ⟨bl,0,none⟩)] g 0 cap (rowsT ts (upto ts ts.length 0) hin).toArray W eg hcmp hH hlt (by rw [List.size_toArray,hlen];omega) (totR ts)
  rw [List.size_toArray,hlen] at hcon
  refine Calls.mono hcon ?_
  rintro e w' ⟨rfl,n,os,rfl⟩
  refine ⟨rfl,sortK_below _ _ _ _ hb hW,?_⟩
  obtain ⟨cs,h1,h2⟩:=sortK_cells (encR (ts:=ts)) 2 (m:=n) hg (rowsT ts (upto ts ts.length 0) hin).toArray ((rowsT ts (upto ts ts.length 0) hin).toArray.toList.mergeSort fun x y=> !ltOf (cmpR ts) y x).toArray os hH (by simp)
  refine ⟨cs,h1,fun j hj=> ?_⟩
  have hml:((rowsT ts (upto ts ts.length 0) hin).mergeSort fun x y=> !ltOf (cmpR ts) y x).length=(upto ts ts.length 0).length:=by rw [List.length_mergeSort,hlen]
  have h3:=flat_rows ((rowsT ts (upto ts ts.length 0) hin).mergeSort fun x y=> !ltOf (cmpR ts) y x) j (by rw [hml];exact hj)
  rw [merge_all] at h3
  rw [←h3]
  exact h2 j (by simp only [List.size_toArray];rw [hml];exact hj)
theorem sort_none (A:Option Addr) (cap:Nat) (fv:Value) (w:World):Calls Tryz.prog 221 #[.slice A 0 cap,fv] w fun e w'=>e= .returned (.tuple #[])∧w'=w:=
  AnyF.slices_SortFunc_none Tryz.laySort A cap fv w
theorem rowsSorted_walk (v : Value) (ts : List (List UInt8)) (hrt : refRight ts = true) (w : World) (h : Rk w 1 v ts.length (ts.map strOf)) :
    Calls Tryz.prog 126 #[v] w fun e w'=> ∃v',e= .returned v'∧Rk w' 2 v' (refFold ts (upto ts ts.length 0)).length (rowCells (refFold ts (upto ts ts.length 0)))∧Below w.heap.size w w':=by
  obtain ⟨hn10,h40⟩:=right_len hrt
  have H40:=Lib.hid h40;clear h40
  have HK:=Lib.hid h
  obtain ⟨h1,A,cap,rfl,h2⟩:=h
  clear h1 h2
  go_enter Tryz.func126,Tryz.ntmps126
  go_wp2_with fail
  refine cg fun V0 hV_V0=> ?_
  have hB:=Below.refl w.heap.size w
  refine neb0 hV_V0 hB ?_;clear hB;intro z_V0 hB
  obtain ⟨kl,c_kl,l_klV0⟩:=nM hV_V0 (w.heap.size)
  clear hV_V0
  refine rC (rowsRight_calls _ ts (by omega) _ (HK.out.below hB)) fun W0 hb_W0=> ?_
  refine beb1 hb_W0 hB kl ?_;clear hb_W0 hB kl c_kl;intro z_W0 hB kl c_kl
  rw [hrt]
  have HB0:=Lib.hid hB;have KL:=Lib.hid kl;have HK0:=Lib.hid (HK.out.below hB)
  have hz0:=hB.size
  clear hB
  generalize hkb:w.heap.size=kb at*
  go_wp2_with fail
  go_loopg [3,12] ts.length (fun k p q wr=> ∃d:Nat,q= .int .i64 (d:Int)∧d+k=ts.length∧Hid (wr.ownsRow W0.heap.size 136 2 p (upto ts d 0).length (rowCells (upto ts d 0)))∧Hid (Below W0.heap.size W0 wr))
  case atStart=>exact ⟨0,rfl,by omega,Lib.hid (own_nil _ _ _ _),Lib.hid (Below.refl _ _)⟩
  case round=>
    obtain ⟨d,rfl,hk,Hown,HB⟩:=hrel
    by_cases hlt:d<ts.length
    · obtain ⟨k,rfl⟩: ∃k,gk=k+1:=⟨gk - 1,by omega⟩
      obtain ⟨t,ht⟩:=at_some hlt
      have n1:decide ((d:Int)<(ts.length:Int))=true:=by simpa using hlt
      have n2:(d:Int)<(ts.length:Int):=by omega
      have E3:=Lib.hid (step_wrap d 10 (by omega) (by omega))
      have hgd:=getD_at ht
      have hlen:=H40.out d
      rw [hgd] at hlen
      obtain ⟨-,A',cap',hv,h2⟩:=HK0.out.below HB.out
      obtain ⟨g,cs,T,rfl,kg,hcs⟩:=h2 (by omega)
      obtain ⟨rfl, -,rfl⟩:=Value.slice.inj hv
      have hci:cs[d]? =some (strOf t):=by rw [hcs d (by omega),List.getElem?_map,ht];rfl
      clear h2 hv hcs
      have e4:wrap64 ((t.length:Int)+1)=(t.length:Int)+1:=step_wrap t.length 40 (by omega) (by omega)
      have c_kg:=f3 kg;have l_kgwr:=lt_of kg
      go_wp2_with fail
      go_loopg [3,20] (t.length+1) (fun k2 p q wr=> ∃a:Nat,q= .int .i64 (a:Int)∧a+k2=t.length+1∧Hid (wr.ownsRow W0.heap.size 136 2 p (upto ts d a).length (rowCells (upto ts d a)))∧Hid (Below W0.heap.size W0 wr))
      case atStart=>exact ⟨0,rfl,by omega,Hown,HB⟩
      case round=>
        clear Hown HB kg c_kg hci
        obtain ⟨a,rfl,hk2,Hown,HB⟩:=hrel
        by_cases hla:a≤t.length
        · obtain ⟨k2,rfl⟩: ∃k,gk=k+1:=⟨gk - 1,by omega⟩
          have m1:decide ((a:Int)<(t.length:Int)+1)=true:=by simp;omega
          have E4:=Lib.hid (step_wrap a 40 (by omega) (by omega))
          have hw0:=HB.out.size
          have hol:(upto ts d a).length≤500:=by have:=upto_length H40.out d a;omega
          have hown:=Hown.out
          go_wp2_with (at_builtin;refine wpList_push _ (by rfl) _ _ 131 (by rfl) (W0.heap.size) 136 (.agg #[.int .i64 0, .int .i64 0]) 2 16 Tryz.underlying131 (by kernel_rfl) (by rfl) (by omega) _ _ _ (by rfl) hown _ (by rfl) (by rfl) (by simp [Value.oneCell']) (by unfold maxLen;omega) (by omega) (by omega) ?_;intro g_W c_W W3 hown_W hlow_W hlt_W)
          go_wp2_with fail
          go_roundg k2
          case measure=>omega
          case rel=>
            refine ⟨a+1,by first|rfl|(rw [E4.out];rfl),by omega,Lib.hid ?_,Lib.hid (low_step HB.out (by omega) hlow_W)⟩
            rw [upto_snoc,rowCells_append,List.length_append]
            exact hown_W
        · have m1:decide ((a:Int)<(t.length:Int)+1)=false:=by simp;omega
          obtain rfl:a=t.length+1:=by omega
          have Hown':=Hown
          rw [show t.length=(ts.getD d []).length by rw [hgd],upto_next] at Hown'
          go_wp2_with fail
          go_roundg k
          case measure=>omega
          case rel=>exact ⟨d+1,by first|rfl|(rw [E3.out];rfl),by omega,Hown',HB⟩
    · have n1:decide ((d:Int)<(ts.length:Int))=false:=by simpa using hlt
      obtain rfl:d=ts.length:=by omega
      have hol:(upto ts ts.length 0).length≤500:=by have:=upto_length H40.out ts.length 0;omega
      have hw0:=HB.out.size
      have hfl:=refFold_length ts (upto ts ts.length 0)
      have hts: ∀t,t∈ts→t.length≤50000:=fun t ht=>by
        obtain ⟨i,hi⟩:=List.getElem?_of_mem ht
        have:=H40.out i
        rw [getD_at hi] at this;omega
      have HT:=Lib.hid hts;clear hts
      obtain ⟨-,A3,c3,rfl,hx3⟩:=Rx.of_own Hown.out
      by_cases h0:0<(upto ts ts.length 0).length
      · obtain ⟨g3,hv3,hg3,hc3⟩:=hx3 h0
        rcases Hown.out.2 with ⟨-,hz⟩|⟨g4,cap4,cur4,hv4,hg4,hc4, -, -, -, -⟩
        · omega
        · have e43 : g4 = g3 := by
            have:=(Value.slice.inj hv4).1
            rw [hv3] at this
            simp at this
            exact this.symm
          subst e43
          have hsort:=Lib.hid (sort_calls (cap:=c3) (b0:=0) HT.out hg4 HB.out KL.out rfl HK0.out hc4 h0 hol hc3)
          subst hv3
          go_wp2_with (go_at_call 221;refine hsort.out.mono ?_;rintro e w' ⟨rfl,hbs,cs,hcs,hrow⟩)
          go_ret
          refine ⟨_,rfl,⟨?_,_,_,by rw [hfl];rfl,fun _=>⟨_,_,_,rfl,hcs,fun j hj=> ?_⟩⟩,?_⟩
          · rw [rowCells_length]
          · exact hrow j (by rw [hfl] at hj;exact hj)
          · have:=HB.out.trans hbs
            have hb0:Below w.heap.size w W0:=by rw [hkb];exact HB0.out
            exact below_step hb0 this
      · have hz:(upto ts ts.length 0).length=0:=by omega
        have hsort:Calls Tryz.prog 221 #[.slice A3 (upto ts ts.length 0).length c3, .func (.func 222) #[] #[.pointer (some ⟨kb,0,none⟩)]] wr fun e w'=>e= .returned (.tuple #[])∧w'=wr:=by
          rw [hz];exact sort_none A3 c3 _ wr
        have hb0:Below w.heap.size w wr:=below_step (by rw [hkb];exact HB0.out) HB.out
        have HS:=Lib.hid hsort
        have HZ:=Lib.hid hz
        clear hsort hz h0
        go_wp2_with (go_at_call 221;refine HS.out.mono ?_;rintro e w' ⟨rfl,rfl⟩)
        go_ret
        refine ⟨_,rfl,⟨by rw [rowCells_length],_,_,by rw [hfl];rfl,fun h=>absurd h (by rw [hfl,HZ.out];omega)⟩,hb0⟩
theorem rowsSorted_calls (v : Value) (ts : List (List UInt8)) (hn : ts.length ≤ 50000) (w : World) (h : Rk w 1 v ts.length (ts.map strOf)) :
    Calls Tryz.prog 126 #[v] w fun e w'=> ∃v',e= .returned v'∧Rk w' 2 v' (refSorted ts).length (rowCells (refSorted ts))∧Below w.heap.size w w':=by
  by_cases hrt:refRight ts=true
  · have:=rowsSorted_walk v ts hrt w h
    unfold refSorted
    rw [if_pos hrt];exact this
  · have hr0:refRight ts=false:=by simpa using hrt
    have hs:refSorted ts=[]:=by unfold refSorted;rw [if_neg hrt]
    rw [hs]
    have HK:=Lib.hid h
    obtain ⟨h1,A,cap,rfl,h2⟩:=h
    clear h1 h2
    go_enter Tryz.func126,Tryz.ntmps126
    go_wp2_with fail
    refine cg fun V0 hV_V0=> ?_
    have hB:=Below.refl w.heap.size w
    refine neb0 hV_V0 hB ?_;clear hB;intro z_V0 hB
    obtain ⟨kl,c_kl,l_klV0⟩:=nM hV_V0 (w.heap.size)
    clear hV_V0
    refine rC (rowsRight_calls _ ts hn _ (HK.out.below hB)) fun W0 hb_W0=> ?_
    refine beb1 hb_W0 hB kl ?_;clear hb_W0 hB kl c_kl;intro z_W0 hB kl c_kl
    rw [hr0]
    go_wp2_with fail
    go_ret
    exact ⟨_,rfl,⟨rfl,none,0,rfl,fun h=>absurd h (by simp)⟩,hB⟩
end
section
open Go.RowKit
attribute [local go_sem ↓] Go.wp_at_zero Go.wp_at_succ
theorem symof_calls (b:UInt8) (w:World):Calls Tryz.prog 227 #[.int .u8 (b.toNat:Int)] w fun e w'=>e= .returned (.int .i64 ((b.toNat:Int)+1))∧Below w.heap.size w w':=by
  have hb:=b.toNat_lt
  have e1:wrap64 ((b.toNat:Int)+1)=(b.toNat:Int)+1:=IntWalk.wrap64_in _ (by omega)
  have e2:wrap64 (b.toNat:Int)=(b.toNat:Int):=IntWalk.wrap64_in _ (by omega)
  go_enter Tryz.func227,Tryz.ntmps227
  go_wp2_with fail
  go_ret
  exact ⟨rfl,Below.refl _ _⟩
section
attribute [local go_sem] str_len
theorem rowsSymbols_calls (v : Value) (ts : List (List UInt8)) (hn : ts.length ≤ 50000) (hn2 : ∀ t, t ∈ ts → t.length ≤ 50000) (w : World) (h : Rk w 1 v ts.length (ts.map strOf)) :
    Calls Tryz.prog 132 #[v] w fun e w'=> ∃v',e= .returned v'∧w'.ownsRow w.heap.size 3 1 v' (refSorted ts).length (intCells ((refSorted ts).map (symOf ts)))∧Below w.heap.size w w':=by
  obtain ⟨R,hR⟩: ∃R,R=refSorted ts:=⟨_,rfl⟩
  rw [←hR]
  have HK:=Lib.hid h
  obtain ⟨h1,A,cap,rfl,h2⟩:=h
  have hval: ∀x,x∈R→ ∃t,ts[x.1]? =some t∧x.2≤t.length:=fun x hx=>sorted_valid (hR▸hx)
  have hsm:R.length≤500:=by rw [hR];exact sorted_small ts
  have Hval:=Lib.hid hval;have HR:=Lib.hid hR
  clear h1 h2 hval hR
  go_enter Tryz.func132,Tryz.ntmps132
  go_wp2_with fail
  refine cg fun V0 hV_V0=> ?_
  have hB:=Below.refl w.heap.size w
  refine neb0 hV_V0 hB ?_;clear hB;intro z_V0 hB
  clear hV_V0
  refine (rowsSorted_calls _ ts hn _ (HK.out.below hB)).mono ?_
  rintro e1 W1 ⟨v1,rfl,hown1,hb1⟩
  have hB1:=below_step hB hb1
  rw [←HR.out] at hown1
  have HX:=Lib.hid hown1;have HB1:=Lib.hid hB1
  obtain ⟨-,A1,c1,rfl, -⟩:=hown1
  have hsz1:=hB1.size
  clear hb1 hB hB1
  go_wp2_with fail
  go_loopg [3,10] R.length (fun k p q wr=> ∃i:Nat,q= .int .i64 (i:Int)∧i+k=R.length∧Hid (wr.ownsRow W1.heap.size 3 1 p i (intCells ((R.take i).map (symOf ts))))∧Hid (Below W1.heap.size W1 wr))
  case atStart=>exact ⟨0,rfl,by omega,Lib.hid (own_nil _ _ _ _),Lib.hid (Below.refl _ _)⟩
  case round=>
    obtain ⟨i,rfl,hk,Hown,HB⟩:=hrel
    by_cases hlt:i<R.length
    · obtain ⟨k,rfl⟩: ∃k,gk=k+1:=⟨gk - 1,by omega⟩
      obtain ⟨x,hx⟩:=at_some hlt
      obtain ⟨t,ht,hxt⟩:=Hval.out x (List.mem_of_getElem? hx)
      obtain ⟨-,A',cap',hv,h2⟩:=HX.out.below HB.out
      obtain ⟨g1,cs1,T1,rfl,kg1,hcs1⟩:=h2 (by omega)
      obtain ⟨rfl, -,rfl⟩:=Value.slice.inj hv
      have c1a:cs1[i*2]? =some (.int .i64 (x.1:Int)):=(hcs1 _ (by omega)).trans (rowCells_at hx).1
      have c1b:cs1[i*2+1]? =some (.int .i64 (x.2:Int)):=(hcs1 _ (by omega)).trans (rowCells_at hx).2
      clear h2 hv hcs1
      have htake:Hid (intCells ((R.take (i+1)).map (symOf ts))=intCells ((R.take i).map (symOf ts))++[.int .i64 (symOf ts x)]):=Lib.hid (by
        unfold intCells
        rw [List.take_succ_eq_append_getElem hlt,List.map_append,List.map_append,(List.getElem_eq_iff hlt).2 hx];rfl)
      have n1:decide ((i:Int)<(R.length:Int))=true:=by simpa using hlt
      have n2:(i:Int)<(R.length:Int):=by omega
      have E3:=Lib.hid (step_wrap i 500 (by omega) (by omega))
      have hw1:=HB.out.size
      by_cases h0:x.2=0
      · have hs:Hid (symOf ts x=0):=Lib.hid (by unfold symOf;rw [if_pos h0])
        have d0:decide (0<x.2)=false:=by rw [h0];rfl
        have d1:decide ((0:Int)<(x.2:Int))=false:=by rw [h0];rfl
        clear h0 hxt
        have hHB:=HB.out
        have c_kg1:=f3 kg1;have l_kg1wr:=lt_of kg1
        go_wp2_with (at_builtin;refine wpList_push _ (by rfl) _ _ 43 (by rfl) (W1.heap.size) 3 (.int .i64 0) 1 8 Tryz.underlying43 (by kernel_rfl) (by rfl) (by omega) _ _ _ (by rfl) (own_below Hown.out (bel)) _ (by rfl) (by rw [siz_alloc];rfl) (by simp [Value.oneCell']) (by unfold maxLen;omega) (by omega) (by simp only [siz_alloc,siz_set];omega) ?_;intro g_W c_W W5 hown_W hlow_W hlt_W)
        go_wp2_with fail
        go_roundg k
        case measure=>omega
        case rel=>exact ⟨i+1,by first|rfl|(rw [E3.out];rfl),by omega,Lib.hid (by rw [htake.out,hs.out];exact hown_W),Lib.hid (low_step (bel) (Nat.le_refl _) hlow_W)⟩
      · obtain ⟨j,hj⟩: ∃j:Nat,x.2=j+1:=⟨x.2 - 1,by omega⟩
        obtain ⟨b,hb⟩:=at_some (show j<t.length by omega)
        have htl:=hn2 t (List.mem_of_getElem? ht)
        have hs:Hid (symOf ts x=(b.toNat:Int)+1):=Lib.hid (by unfold symOf;rw [if_neg h0,getD_at ht,hj];simp [List.getD,hb])
        have d0:decide ((0:Int)<(x.2:Int))=true:=by simp;omega
        obtain ⟨hd, -⟩:=List.getElem?_eq_some_iff.1 ht
        obtain ⟨-,A2,cap2,hv2,h3⟩:=(HK.out.below HB1.out).below HB.out
        obtain ⟨g2,cs2,T2,rfl,kg2,hcs2⟩:=h3 (by omega)
        obtain ⟨rfl, -,rfl⟩:=Value.slice.inj hv2
        have c2a:cs2[x.1]? =some (strOf t):=by rw [hcs2 _ (by omega),List.getElem?_map,ht];rfl
        have n3:(x.1:Int)<(ts.length:Int):=by omega
        have hix:=str_index t j b hb
        have hxj:(x.2:Int)=(j:Int)+1:=by omega
        rw [hxj] at c1b d0
        have e8:wrap64 ((j:Int)+1 - 1)=(j:Int):=by rw [show (j:Int)+1 - 1=(j:Int) by omega];exact step_id j t.length (by omega) (by omega)
        have e9:wrap64 (j:Int)=(j:Int):=step_id j t.length (by omega) (by omega)
        have E9:=Lib.hid e9
        clear h0 hxt h3 hv2 hcs2 hb hxj e9
        have hB:=Below.refl wr.heap.size wr
        have c_kg1:=f3 kg1;have l_kg1wr:=lt_of kg1
        have c_kg2:=f3 kg2;have l_kg2wr:=lt_of kg2
        go_wp2_with fail
        refine wg fun V hV_V=> ?_
        refine neb2 hV_V hB kg1 kg2 ?_;clear hB kg1 kg2 c_kg1 c_kg2;intro z_V hB kg1 c_kg1 kg2 c_kg2
        obtain ⟨kr,c_kr,l_krV⟩:=nM hV_V (wr.heap.size)
        clear hV_V
        have HBV:=Lib.hid (below_step HB.out hB)
        have HO:=Lib.hid (own_below Hown.out hB)
        have hzV:=hB.size
        clear hB
        have e9:=E9.out
        refine wp_region_noPanic ?_
        refine wp_region_held_drew (S:=fun v=>Below V.heap.size V v∧(V.heap.size≤v.heap.size)∧ ∀b o,b<V.heap.size→v.cell? ⟨b,o,none⟩=V.cell? ⟨b,o,none⟩) (by kernel_rfl) (HeldB.start V) (fun hHeld=> ?_)
        have hB_d:Below V.heap.size V V.drew:=(Below.refl _ _).drew
        generalize V.drew=Vd at hHeld hB_d⊢
        refine ta 0 hHeld ?_
        refine ta 1 hHeld ?_
        refine ta 2 hHeld ?_
        refine ta 3 hHeld ?_
        refine ta 4 hHeld ?_
        refine ta 5 hHeld ?_
        refine ta 6 hHeld ?_
        refine ta 7 hHeld ?_
        refine ta 8 hHeld ?_
        clear e8 e9
        refine rd 9 rfl fun K hK=> ?_
        go_simp
        refine (symof_calls b _).mono ?_
        rintro e6 W6 ⟨rfl,hb6⟩
        refine ho hK (HeldB.call hHeld hb6) fun hHeld=> ?_
        clear hK K
        refine rd 10 rfl fun K hK=> ?_
        go_simp
        refine ho hK hHeld fun hHeld=> ?_
        clear hK K
        refine wpAnyH_done (by kernel_rfl) ?_ _
        refine NoPanic.normal ?_
        have HB6:=Lib.hid (hHeld.1)
        have HO6:=Lib.hid (own_below HO.out hHeld.1)
        have hz6:=hHeld.1.size
        clear hHeld hb6 kg1 kg2 kr c_kg1 c_kg2 c_kr hB_d
        go_wp2_with (at_builtin;refine wpList_push _ (by rfl) _ _ 43 (by rfl) (W1.heap.size) 3 (.int .i64 0) 1 8 Tryz.underlying43 (by kernel_rfl) (by rfl) (by omega) _ _ _ (by rfl) HO6.out _ (by rfl) (by rfl) (by simp [Value.oneCell']) (by unfold maxLen;omega) (by omega) (by omega) ?_;intro g_W c_W W7 hown_W hlow_W hlt_W)
        go_wp2_with fail
        go_roundg k
        case measure=>omega
        case rel=>exact ⟨i+1,by first|rfl|(rw [E3.out];rfl),by omega,Lib.hid (by rw [htake.out,hs.out];exact hown_W),Lib.hid (low_step (below_step HBV.out HB6.out) (Nat.le_refl _) hlow_W)⟩
    · have hi:i=R.length:=by omega
      have n1:decide ((i:Int)<(R.length:Int))=false:=by simpa using hlt
      have hown:=Hown.out
      rw [hi,List.take_length] at hown
      have HO:=Lib.hid (own_mono hown hsz1);clear hown Hown
      have HBF:=Lib.hid (below_step HB1.out HB.out)
      go_wp2_with fail
      go_ret
      exact ⟨u3,rfl,HO.out,HBF.out⟩
end
end
section
open Go.RowKit Go.Sort
attribute [local go_sem ↓] Go.wp_at_zero Go.wp_at_succ
attribute [local go_sem] lt_s2 lt_s3 lt_s4 str_len
variable {ap : Value} {O : Nat → Prop} {tb : Nat}
theorem pInsert_calls (x : Pt) (hp : 0 ≤ x.pos) (hp2 : x.pos ≤ x.text.length) (ht : x.text.length ≤ 50000) (hrate : 1 ≤ x.rate) (r : Int × Pt) (hr : x.insert = some r) (w : World) (hT : PB w tb ap x O) :
    Calls Tryz.prog 148 #[.pointer (some ⟨tb,0,none⟩)] w fun e w'=>e= .returned (.int .i64 r.1)∧DidP tb ap r.2 O w w':=by
  unfold Pt.insert at hr
  obtain ⟨b,h_b,h_r⟩:=Option.bind_eq_some_iff.1 hr
  have Hb:=Lib.hid h_b;clear h_b hr;have hr:=h_r;clear h_r
  obtain ⟨k,h_b,h_r⟩:=Option.bind_eq_some_iff.1 hr
  have Hk:=Lib.hid h_b;clear h_b hr;have hr:=h_r;clear h_r
  obtain ⟨r1,h_b,h_r⟩:=Option.bind_eq_some_iff.1 hr
  have Hr1:=Lib.hid h_b;clear h_b hr;have hr:=h_r;clear h_r
  obtain ⟨g1,e1,s1⟩:=r1
  have Hr:=Lib.hid hr;have Hp:=Lib.hid hp;have Hp2:=Lib.hid hp2;have Ht:=Lib.hid ht;have Hrate:=Lib.hid hrate
  clear hr ht hrate hp hp2
  go_enter Tryz.func148,Tryz.ntmps148
  have hA:=hT.hA
  have kt:=hT.blk
  have o_kt:=hT.no
  have c_kt:=f3 kt;have l_ktw:=lt_of kt
  go_upto_if 12 with fail
  refine wp_gen fun V hV_V=> ?_
  have hF:=Fr.refl ((oneX tb)) O w
  refine nef1 hV_V hA hF kt ?_;clear hA hF kt c_kt;intro z_V hA hF kt c_kt
  clear hV_V
  go_cut [3] from 8 (fun s3 wx=>s3= .int .i64 x.sym∧AP wx ap x.s O∧Fr (oneX tb) O O w wx∧wx.heap[tb]? =some (.cells #[ap, .int .i64 x.src, .int .i64 x.rate, .int .i64 x.id,strOf x.text, .int .i64 x.p.wave, .int .i64 x.p.marks, .int .i64 x.p.spots, .int .i64 x.p.table, .int .i64 x.pos, .int .i64 x.row, .bool x.begun, .bool x.over, .int .i64 x.root] 191 (0,0)))
  case first=>
    by_cases h0:0<x.pos
    · have d0:decide (0<x.pos)=true:=by simpa using h0
      obtain ⟨n,hn⟩: ∃n:Nat,x.pos=(n:Int)+1:=⟨(x.pos - 1).toNat,by omega⟩
      have hlt:n<x.text.length:=by have:=Hp2.out;omega
      obtain ⟨u,hu⟩: ∃u,x.text[n]? =some u:=⟨_,List.getElem?_eq_getElem hlt⟩
      have hsym:Hid (x.sym=(u.toNat:Int)+1):=Lib.hid (by
        unfold Pt.sym
        rw [if_pos h0,hn,show ((n:Int)+1 - 1).toNat=n by omega,List.getD_eq_getElem?_getD,hu];rfl)
      have e1:wrap64 (x.pos - 1)=(n:Int):=by rw [IntWalk.wrap64_in _ (by have:=Ht.out;omega)];omega
      have hix:=fun v=>str_index x.text n u hu v
      clear h0 hlt hn hu
      rw [d0]
      go_wp2_with fail
      refine wg fun V1 hV_V1=> ?_
      refine nef1 hV_V1 hA hF kt ?_;clear hA hF kt c_kt;intro z_V1 hA hF kt c_kt
      clear hV_V1
      refine dr (fun v=>Sm v V1 (tb)∧(V1.heap.size≤v.heap.size)∧AP v ap x.s O) ⟨fun _=>rfl,Nat.le_refl _,hA.drew⟩ fun V1d hV_V1d hHeld=> ?_
      have v_kt:=c_kt.1
      refine nef1 hV_V1d hA hF kt ?_;clear hA hF kt c_kt;intro z_V1d hA hF kt c_kt
      clear hV_V1d
      refine ta 0 hHeld ?_
      refine ta 1 hHeld ?_
      refine ta 2 hHeld ?_
      refine ta 3 hHeld ?_
      refine ta 4 hHeld ?_
      refine ta 5 hHeld ?_
      refine ta 6 hHeld ?_
      refine ta 7 hHeld ?_
      refine ta 8 hHeld ?_
      refine ta 9 hHeld ?_
      refine rd 10 rfl fun K hK=> ?_
      go_simp
      try simp only [IntWalk.i64_left]
      refine rC (symof_calls u _) fun W1 hb_W1=> ?_
      refine bef1 hb_W1 hA hF kt ?_;clear hb_W1 hA hF kt c_kt;intro z_W1 hA hF kt c_kt
      refine ho hK ⟨vv c_kt v_kt,by omega,hA⟩ fun hHeld=> ?_
      clear hK K
      refine rd 11 rfl fun K hK=> ?_
      go_simp
      refine ho hK hHeld fun hHeld=> ?_
      clear hK K
      refine wd ?_
      go_wp2_with fail
      go_meet
      exact ⟨by rw [hsym.out],hA,hF,kt⟩
    · have d0:decide (0<x.pos)=false:=by simpa using h0
      have hsym:Hid (x.sym=0):=Lib.hid (by unfold Pt.sym;rw [if_neg h0])
      clear h0
      rw [d0]
      go_wp2_with fail
      go_meet
      exact ⟨by rw [hsym.out],hA,hF,kt⟩
  case rest=>
    clear hA hF kt c_kt
    obtain ⟨rfl,hA,hF,kt⟩:=hcut
    have c_kt:=f3 kt;have l_ktwc:=lt_of kt
    go_wp2_with fail
    refine wg fun V2 hV_V2=> ?_
    refine nef1 hV_V2 hA hF kt ?_;clear hA hF kt c_kt;intro z_V2 hA hF kt c_kt
    clear hV_V2
    refine dr (fun v=>Sm v V2 (tb)∧(V2.heap.size≤v.heap.size)∧AP v ap x.s O) ⟨fun _=>rfl,Nat.le_refl _,hA.drew⟩ fun V2d hV_V2d hHeld=> ?_
    have v_kt:=c_kt.1
    refine nef1 hV_V2d hA hF kt ?_;clear hA hF kt c_kt;intro z_V2d hA hF kt c_kt
    clear hV_V2d
    refine ta 0 hHeld ?_
    refine ta 1 hHeld ?_
    refine ta 2 hHeld ?_
    refine ta 3 hHeld ?_
    refine ta 4 hHeld ?_
    refine ta 5 hHeld ?_
    refine ta 6 hHeld ?_
    refine ta 7 hHeld ?_
    refine ta 8 hHeld ?_
    refine ta 9 hHeld ?_
    refine ta 12 hHeld ?_
    refine ta 13 hHeld ?_
    refine ta 14 hHeld ?_
    refine ta 15 hHeld ?_
    refine ta 16 hHeld ?_
    refine ta 17 hHeld ?_
    refine ta 18 hHeld ?_
    refine ta 19 hHeld ?_
    refine ta 20 hHeld ?_
    refine ta 21 hHeld ?_
    refine ta 22 hHeld ?_
    refine ta 23 hHeld ?_
    refine ta 24 hHeld ?_
    refine ta 25 hHeld ?_
    refine rd 10 rfl fun K hK=> ?_
    go_simp
    try simp only [IntWalk.i64_left]
    refine rC (wBefore_calls _ _ b Hb.out _ hA) fun W2 hb_W2=> ?_
    refine bef1 hb_W2 hA hF kt ?_;clear hb_W2 hA hF kt c_kt;intro z_W2 hA hF kt c_kt
    refine ho hK ⟨vv c_kt v_kt,by omega,hA⟩ fun hHeld=> ?_
    clear hK K
    refine ta 11 hHeld ?_
    refine rd 26 rfl fun K hK=> ?_
    go_simp
    try simp only [IntWalk.i64_left]
    refine rC (wRank_calls _ _ _ k Hk.out _ hA) fun W3 hb_W3=> ?_
    refine bef1 hb_W3 hA hF kt ?_;clear hb_W3 hA hF kt c_kt;intro z_W3 hA hF kt c_kt
    refine ho hK ⟨vv c_kt v_kt,by omega,hA⟩ fun hHeld=> ?_
    clear hK K
    refine ta 27 hHeld ?_
    refine rd 28 rfl fun K hK=> ?_
    go_simp
    refine ho hK hHeld fun hHeld=> ?_
    clear hK K
    refine wd ?_
    go_wp2_with fail
    refine wg fun V3 hV_V3=> ?_
    refine nef1 hV_V3 hA hF kt ?_;clear hA hF kt c_kt;intro z_V3 hA hF kt c_kt
    clear hV_V3
    refine dr (fun v=>Sm v V3 (tb)∧(V3.heap.size≤v.heap.size)∧True) ⟨fun _=>rfl,Nat.le_refl _,trivial⟩ fun V3d hV_V3d hHeld=> ?_
    have v_kt:=c_kt.1
    refine nef1 hV_V3d hA hF kt ?_;clear hA hF kt c_kt;intro z_V3d hA hF kt c_kt
    clear hV_V3d
    refine ta 0 hHeld ?_
    refine ta 1 hHeld ?_
    refine ta 2 hHeld ?_
    refine ta 3 hHeld ?_
    refine ta 4 hHeld ?_
    refine ta 5 hHeld ?_
    refine ta 6 hHeld ?_
    refine ta 7 hHeld ?_
    refine ta 8 hHeld ?_
    refine ta 9 hHeld ?_
    refine ta 10 hHeld ?_
    refine ta 11 hHeld ?_
    refine ta 12 hHeld ?_
    refine ta 13 hHeld ?_
    refine rd 14 rfl fun K hK=> ?_
    go_simp
    try simp only [IntWalk.i64_left]
    refine wC (wInsert_calls x.s _ _ _ _ (g1,e1,s1) Hr1.out _ hA) fun W4 O1 hA_W4 hf_W4=> ?_
    refine wif1 hf_W4 hF kt o_kt ?_;clear hA hF kt o_kt c_kt hf_W4;intro z_W4 hF kt c_kt o_kt;have hA:=hA_W4;clear hA_W4
    refine ho hK ⟨vv c_kt v_kt,by omega,trivial⟩ fun hHeld=> ?_
    clear hK K
    refine ta 15 hHeld ?_
    refine ta 16 hHeld ?_
    refine ta 17 hHeld ?_
    refine rd 18 rfl fun K hK=> ?_
    go_simp
    refine ho hK hHeld fun hHeld=> ?_
    clear hK K
    refine rd 19 rfl fun K hK=> ?_
    go_simp
    refine ho hK hHeld fun hHeld=> ?_
    clear hK K
    refine wd ?_
    by_cases he1:e1=0
    · subst he1
      obtain ⟨s2,hs2⟩: ∃s2,s1.drop x.p.wave=s2:=⟨_,rfl⟩
      obtain ⟨p2,hp2⟩: ∃p2:Parts,(⟨g1,x.p.marks,x.p.spots,x.p.table⟩:Parts)=p2:=⟨_,rfl⟩
      have E1:x.swap 0 (g1,0,s1)=(0,{x with s:=s2,p:=p2}):=by rw [←hs2,←hp2];rfl
      have hr:=Hr.out
      rw [E1] at hr
      dsimp only at hr
      rw [if_pos rfl] at hr
      have HR2:=Lib.hid hr
      have hsw:=fun v hT=>pSwap_calls (ap:=ap) (O:=O1) (tb:=tb) x 0 (by omega) (g1,0,s1) v hT
      rw [E1] at hsw
      dsimp only at hsw
      clear E1 hr hs2 hp2 Hr Hr1
      go_wp2_with fail
      refine cg fun V5 hV_V5=> ?_
      refine nef1 hV_V5 hA hF kt ?_;clear hA hF kt c_kt;intro z_V5 hA hF kt c_kt
      clear hV_V5
      refine tC (hsw _ ⟨hA,kt,o_kt⟩) fun W5 O2 hT hf=> ?_
      refine ti0 hT.hA hT.blk hT.no hf hF ?_;clear hA hF kt c_kt o_kt hT hf;intro z_W5 hA hF kt c_kt o_kt
      clear hsw
      go_wp2_with fail
      refine wg fun V6 hV_V6=> ?_
      refine nef1 hV_V6 hA hF kt ?_;clear hA hF kt c_kt;intro z_V6 hA hF kt c_kt
      clear hV_V6
      have hr0: ¬x.rate=0:=by have:=Hrate.out;omega
      refine dr (fun v=>Sm v V6 (tb)∧(V6.heap.size≤v.heap.size)∧AP v ap s2 O2) ⟨fun _=>rfl,Nat.le_refl _,hA.drew⟩ fun V6d hV_V6d hHeld=> ?_
      have v_kt:=c_kt.1
      refine nef1 hV_V6d hA hF kt ?_;clear hA hF kt c_kt;intro z_V6d hA hF kt c_kt
      clear hV_V6d
      refine ta 0 hHeld ?_
      refine ta 1 hHeld ?_
      refine ta 2 hHeld ?_
      refine ta 3 hHeld ?_
      refine ta 4 hHeld ?_
      refine ta 5 hHeld ?_
      refine ta 6 hHeld ?_
      refine ta 7 hHeld ?_
      refine ta 8 hHeld ?_
      refine ta 9 hHeld ?_
      refine rd 10 rfl fun K hK=> ?_
      go_simp
      refine ho hK hHeld fun hHeld=> ?_
      clear hK K
      refine wd ?_
      have hmk:(x.pos.tmod x.rate==0)=decide (x.pos % x.rate=0):=by
        rw [Int.tmod_eq_emod_of_nonneg Hp.out]
        by_cases e:x.pos % x.rate=0
        · rw [decide_eq_true e];simpa using e
        · rw [decide_eq_false e];simpa using e
      have HMK:=Lib.hid hmk
      clear hr0 hmk
      go_upto_if 91 with fail
      rw [HMK.out]
      clear HMK
      obtain ⟨nx,hnx⟩: ∃nx,wrap64 (wrap64 (b+1)+k)=nx:=⟨_,rfl⟩
      rw [hnx] at HR2⊢
      obtain ⟨mk,hmk⟩: ∃mk,decide (x.pos % x.rate=0)=mk:=⟨_,rfl⟩
      rw [hmk]
      clear hnx
      go_cut [5,6] from 8 (fun s5 s6 wx=> ∃s3 p3 O3,Hid (({x with s:=s3,p:=p3}:Pt).mark nx mk=some r)∧AP wx ap s3 O3∧Fr (oneX tb) O O3 w wx∧wx.heap[tb]? =some (.cells #[ap, .int .i64 x.src, .int .i64 x.rate, .int .i64 x.id,strOf x.text, .int .i64 p3.wave, .int .i64 p3.marks, .int .i64 p3.spots, .int .i64 p3.table, .int .i64 x.pos, .int .i64 x.row, .bool x.begun, .bool x.over, .int .i64 x.root] 191 (0,0))∧ ¬O3 tb)
      case first=>
        cases mk with
        | false=>
          have hr:=HR2.out
          rw [if_neg (by simpa using hmk)] at hr
          have HR3:=Lib.hid hr
          clear hr
          go_wp2_with fail
          go_meet
          exact ⟨s2,p2,O2,HR3,hA,hF,kt,o_kt⟩
        | true=>
          have hr:=HR2.out
          rw [if_pos (by simpa using hmk)] at hr
          clear hmk HR2
          obtain ⟨j,h_b,h_r⟩:=Option.bind_eq_some_iff.1 hr
          have Hj:=Lib.hid h_b;clear h_b hr;have hr:=h_r;clear h_r
          obtain ⟨r2,h_b,h_r⟩:=Option.bind_eq_some_iff.1 hr
          have Hr2:=Lib.hid h_b;clear h_b hr;have hr:=h_r;clear h_r
          obtain ⟨g2,e2,s3⟩:=r2
          have HR3:=Lib.hid hr
          clear hr
          go_wp2_with fail
          refine wg fun V8 hV_V8=> ?_
          refine nef1 hV_V8 hA hF kt ?_;clear hA hF kt c_kt;intro z_V8 hA hF kt c_kt
          clear hV_V8
          refine dr (fun v=>Sm v V8 (tb)∧(V8.heap.size≤v.heap.size)∧True) ⟨fun _=>rfl,Nat.le_refl _,trivial⟩ fun V8d hV_V8d hHeld=> ?_
          have v_kt:=c_kt.1
          refine nef1 hV_V8d hA hF kt ?_;clear hA hF kt c_kt;intro z_V8d hA hF kt c_kt
          clear hV_V8d
          refine ta 0 hHeld ?_
          refine ta 1 hHeld ?_
          refine ta 2 hHeld ?_
          refine ta 3 hHeld ?_
          refine ta 4 hHeld ?_
          refine ta 5 hHeld ?_
          refine ta 6 hHeld ?_
          refine ta 7 hHeld ?_
          refine ta 8 hHeld ?_
          refine ta 9 hHeld ?_
          refine ta 10 hHeld ?_
          refine ta 11 hHeld ?_
          refine ta 12 hHeld ?_
          refine ta 13 hHeld ?_
          refine ta 14 hHeld ?_
          refine ta 15 hHeld ?_
          refine ta 16 hHeld ?_
          refine ta 17 hHeld ?_
          refine ta 18 hHeld ?_
          refine ta 19 hHeld ?_
          refine ta 20 hHeld ?_
          refine ta 21 hHeld ?_
          refine ta 23 hHeld ?_
          refine ta 24 hHeld ?_
          refine ta 25 hHeld ?_
          refine ta 26 hHeld ?_
          refine ta 27 hHeld ?_
          refine ta 28 hHeld ?_
          refine ta 29 hHeld ?_
          refine ta 30 hHeld ?_
          refine ta 31 hHeld ?_
          refine rd 22 rfl fun K hK=> ?_
          go_simp
          try simp only [IntWalk.i64_left]
          refine rC (bRank_calls _ _ j Hj.out _ hA) fun W8 hb_W8=> ?_
          refine bef1 hb_W8 hA hF kt ?_;clear hb_W8 hA hF kt c_kt;intro z_W8 hA hF kt c_kt
          refine ho hK ⟨vv c_kt v_kt,by omega,trivial⟩ fun hHeld=> ?_
          clear hK K
          refine rd 32 rfl fun K hK=> ?_
          go_simp
          try simp only [IntWalk.i64_left]
          refine wC (lInsert_calls _ _ (x.id,x.pos) (g2,e2,s3) Hr2.out _ hA) fun W9 O3 hA_W9 hf_W9=> ?_
          refine wif1 hf_W9 hF kt o_kt ?_;clear hA hF kt o_kt c_kt hf_W9;intro z_W9 hF kt c_kt o_kt;have hA:=hA_W9;clear hA_W9
          refine ho hK ⟨vv c_kt v_kt,by omega,trivial⟩ fun hHeld=> ?_
          clear hK K
          refine ta 33 hHeld ?_
          refine ta 34 hHeld ?_
          refine ta 35 hHeld ?_
          refine rd 36 rfl fun K hK=> ?_
          go_simp
          refine ho hK hHeld fun hHeld=> ?_
          clear hK K
          refine rd 37 rfl fun K hK=> ?_
          go_simp
          refine ho hK hHeld fun hHeld=> ?_
          clear hK K
          refine wd ?_
          by_cases he2:e2=0
          · subst he2
            obtain ⟨s4,hs4⟩: ∃s4,s3.drop p2.spots=s4:=⟨_,rfl⟩
            obtain ⟨p4,hp4⟩: ∃p4:Parts,(⟨p2.wave,p2.marks,g2,p2.table⟩:Parts)=p4:=⟨_,rfl⟩
            have E2:({x with s:=s2,p:=p2}:Pt).swap 2 (g2,0,s3)=(0,{x with s:=s4,p:=p4}):=by rw [←hs4,←hp4];rfl
            have hr:=HR3.out
            rw [E2] at hr
            dsimp only at hr
            rw [if_pos rfl] at hr
            have HR4:=Lib.hid hr
            have hsw:=fun v hT=>pSwap_calls (ap:=ap) (O:=O3) (tb:=tb) {x with s:=s2,p:=p2} 2 (by omega) (g2,0,s3) v hT
            rw [E2] at hsw
            dsimp only at hsw
            clear E2 hr hs4 hp4 HR3
            go_wp2_with fail
            refine cg fun V10 hV_V10=> ?_
            refine nef1 hV_V10 hA hF kt ?_;clear hA hF kt c_kt;intro z_V10 hA hF kt c_kt
            clear hV_V10
            refine tC (hsw _ ⟨hA,kt,o_kt⟩) fun W10 O4 hT hf=> ?_
            refine ti0 hT.hA hT.blk hT.no hf hF ?_;clear hA hF kt c_kt o_kt hT hf;intro z_W10 hA hF kt c_kt o_kt
            clear hsw
            go_wp2_with fail
            go_meet
            exact ⟨s4,p4,O4,HR4,hA,hF,kt,o_kt⟩
          · have E2:({x with s:=s2,p:=p2}:Pt).swap 2 (g2,e2,s3)=(e2,{x with s:=s3,p:=p2}):=by unfold Pt.swap;rw [if_neg he2]
            have hr:=HR3.out
            rw [E2] at hr
            dsimp only at hr
            rw [if_neg he2] at hr
            have d2:(e2 !=0)=true:=by simpa using he2
            have HR4:=Lib.hid (Option.some.inj hr)
            have hsw:=fun v hT=>pSwap_calls (ap:=ap) (O:=O3) (tb:=tb) {x with s:=s2,p:=p2} 2 (by omega) (g2,e2,s3) v hT
            rw [E2] at hsw
            dsimp only at hsw
            clear E2 hr HR3 he2
            go_wp2_with fail
            refine cg fun V10 hV_V10=> ?_
            refine nef1 hV_V10 hA hF kt ?_;clear hA hF kt c_kt;intro z_V10 hA hF kt c_kt
            clear hV_V10
            refine tC (hsw _ ⟨hA,kt,o_kt⟩) fun W10 O4 hT hf=> ?_
            refine ti0 hT.hA hT.blk hT.no hf hF ?_;clear hA hF kt c_kt o_kt hT hf;intro z_W10 hA hF kt c_kt o_kt
            clear hsw
            go_wp2_with fail
            go_ret
            rw [←HR4.out]
            exact ⟨rfl,O4,⟨hA,kt,o_kt⟩,hF⟩
      case rest=>
        clear hA hF kt c_kt HR2 hmk
        obtain ⟨s3,p3,O3,HM,hA,hF,kt,o_k3⟩:=hcut
        clear o_kt
        have o_kt:=o_k3
        clear o_k3
        have c_kt:=f3 kt;have l_ktwc:=lt_of kt
        have hm:=HM.out
        unfold Pt.mark at hm
        dsimp only at hm
        obtain ⟨r3,hr3,hm⟩:=Option.map_eq_some_iff.1 hm
        obtain ⟨g3,e3,s5⟩:=r3
        dsimp only at hm
        have Hr3:=Lib.hid hr3
        have hsw:=fun Oz v hT=>pSwap_calls (ap:=ap) (O:=Oz) (tb:=tb) {x with s:=s5,p:=p3,row:=nx,pos:=wrap64 (x.pos - 1)} 1 (by omega) (g3,e3,s5) v hT
        rw [hm] at hsw
        dsimp only at hsw
        clear hr3 hm HM
        go_wp2_with fail
        refine wg fun V11 hV_V11=> ?_
        refine nef1 hV_V11 hA hF kt ?_;clear hA hF kt c_kt;intro z_V11 hA hF kt c_kt
        clear hV_V11
        refine dr (fun v=>Sm v V11 (tb)∧(V11.heap.size≤v.heap.size)∧True) ⟨fun _=>rfl,Nat.le_refl _,trivial⟩ fun V11d hV_V11d hHeld=> ?_
        have v_kt:=c_kt.1
        refine nef1 hV_V11d hA hF kt ?_;clear hA hF kt c_kt;intro z_V11d hA hF kt c_kt
        clear hV_V11d
        refine ta 0 hHeld ?_
        refine ta 1 hHeld ?_
        refine ta 2 hHeld ?_
        refine ta 3 hHeld ?_
        refine ta 4 hHeld ?_
        refine ta 5 hHeld ?_
        refine ta 6 hHeld ?_
        refine ta 7 hHeld ?_
        refine ta 8 hHeld ?_
        refine ta 9 hHeld ?_
        refine ta 10 hHeld ?_
        refine ta 11 hHeld ?_
        refine ta 12 hHeld ?_
        refine ta 13 hHeld ?_
        refine rd 14 rfl fun K hK=> ?_
        go_simp
        try simp only [IntWalk.i64_left]
        refine wC (bInsert_calls _ _ mk (g3,e3,s5) Hr3.out _ hA) fun W11 O5 hA_W11 hf_W11=> ?_
        refine wif1 hf_W11 hF kt o_kt ?_;clear hA hF kt o_kt c_kt hf_W11;intro z_W11 hF kt c_kt o_kt;have hA:=hA_W11;clear hA_W11
        refine ho hK ⟨vv c_kt v_kt,by omega,trivial⟩ fun hHeld=> ?_
        clear hK K
        refine ta 15 hHeld ?_
        refine ta 16 hHeld ?_
        refine ta 17 hHeld ?_
        refine rd 18 rfl fun K hK=> ?_
        go_simp
        refine ho hK hHeld fun hHeld=> ?_
        clear hK K
        refine rd 19 rfl fun K hK=> ?_
        go_simp
        refine ho hK hHeld fun hHeld=> ?_
        clear hK K
        refine wd ?_
        go_wp2_with fail
        refine cg fun V12 hV_V12=> ?_
        refine nef1 hV_V12 hA hF kt ?_;clear hA hF kt c_kt;intro z_V12 hA hF kt c_kt
        clear hV_V12
        refine tC (hsw _ _ ⟨hA,kt,o_kt⟩) fun W12 O6 hT hf=> ?_
        refine ti0 hT.hA hT.blk hT.no hf hF ?_;clear hA hF kt c_kt o_kt hT hf;intro z_W12 hA hF kt c_kt o_kt
        clear hsw
        go_wp2_with fail
        go_ret
        exact ⟨rfl,O6,⟨hA,kt,o_kt⟩,hF⟩
    · have E1:x.swap 0 (g1,e1,s1)=(e1,{x with s:=s1}):=by unfold Pt.swap;rw [if_neg he1]
      have hr:=Hr.out
      rw [E1] at hr
      dsimp only at hr
      rw [if_neg he1] at hr
      have d2:(e1 !=0)=true:=by simpa using he1
      have HR4:=Lib.hid (Option.some.inj hr)
      have hsw:=fun v hT=>pSwap_calls (ap:=ap) (O:=O1) (tb:=tb) x 0 (by omega) (g1,e1,s1) v hT
      rw [E1] at hsw
      dsimp only at hsw
      clear E1 hr Hr he1
      go_wp2_with fail
      refine cg fun V5 hV_V5=> ?_
      refine nef1 hV_V5 hA hF kt ?_;clear hA hF kt c_kt;intro z_V5 hA hF kt c_kt
      clear hV_V5
      refine tC (hsw _ ⟨hA,kt,o_kt⟩) fun W5 O2 hT hf=> ?_
      refine ti0 hT.hA hT.blk hT.no hf hF ?_;clear hA hF kt c_kt o_kt hT hf;intro z_W5 hA hF kt c_kt o_kt
      clear hsw
      go_wp2_with fail
      go_ret
      rw [←HR4.out]
      exact ⟨rfl,O2,⟨hA,kt,o_kt⟩,hF⟩
end
section
open Go.RowKit Go.Sort
attribute [local go_sem ↓] Go.wp_at_zero Go.wp_at_succ
attribute [local go_sem] lt_s2 lt_s3 lt_s4 str_len
variable {ap : Value} {O : Nat → Prop} {tb : Nat}
structure PtOk (x:Pt):Prop where
  lo: -1≤x.pos
  hi:x.pos≤x.text.length
  len:x.text.length≤50000
  rate:1≤x.rate
theorem pStep_calls (x : Pt) (hok : PtOk x) (r : Bool × Int × Pt) (hr : x.step = some r) (w : World) (hT : PB w tb ap x O) :
    Calls Tryz.prog 49 #[.pointer (some ⟨tb,0,none⟩)] w fun e w'=>e= .returned (.tuple #[.bool r.1, .int .i64 r.2.1])∧DidP tb ap r.2.2 O w w':=by
  have Hr:=Lib.hid hr;clear hr
  go_enter Tryz.func49,Tryz.ntmps49
  go_wp2_with fail
  refine wp_scope_ghost 0 (fun n a' wr=> ∃e x1 O1,(PB wr tb ap x1 O1∧Fr (oneX tb) O O1 w wr∧Hid (Pt.asked (e,x1)=r))∧ ∃u1 u2 u3 u5 u6 u7 u8 u9 u10 u11 u12 u13 u14 u15 u16 u17 u18 u19 u20 u21 u22 u23 u24 u25 u26 u27 u28 u29 u30 u31 u32 u33 u34 u35 u36 u37 u38 u39 u40 u41 u42 u43 u44 u45 u46 u47 u48 u49 u50 u51 u52 u53 u54 u55 u56:Value,a'={tmps:= #[(.pointer (some ⟨tb,0,none⟩):Value),u1,u2,u3,(.int .i64 e:Value),u5,u6,u7,u8,u9,u10,u11,u12,u13,u14,u15,u16,u17,u18,u19,u20,u21,u22,u23,u24,u25,u26,u27,u28,u29,u30,u31,u32,u33,u34,u35,u36,u37,u38,u39,u40,u41,u42,u43,u44,u45,u46,u47,u48,u49,u50,u51,u52,u53,u54,u55,u56],defers:=[]}) (by rfl) ?first ?pass
  case first=>
    intro hrest
    clear hrest
    have hr:=Hr.out
    unfold Pt.step at hr
    have kt:=hT.blk
    cases hov:x.over with
    | true=>
      rw [hov,if_pos rfl] at hr
      cases hr
      rw [hov] at kt
      have c_kt:=f3 kt;have l_ktw:=lt_of kt
      go_wp2_with fail
      simp only [Exit.jump]
      go_ret2
      exact ⟨rfl,O,hT,Fr.refl _ _ _⟩
    | false=>
      rw [hov,if_neg (by decide)] at hr
      cases hb:x.begun with
      | false=>
        rw [hb,if_neg (by decide)] at hr
        obtain ⟨r1,hr1,rfl⟩:=Option.map_eq_some_iff.1 hr
        have Hr1:=Lib.hid hr1
        clear hr hr1 Hr
        rw [hov,hb] at kt
        have c_kt:=f3 kt;have l_ktw:=lt_of kt
        go_wp2_with fail
        refine (pBegin_calls x r1 Hr1.out _ hT).mono ?_
        rintro e1 W1 ⟨rfl,O1,hT1,hf1⟩
        clear kt c_kt
        go_wp2_with fail
        go_step3
        refine ⟨rfl,0,r1.1,r1.2,O1,⟨hT1,hf1,Lib.hid rfl⟩,?_⟩
        exact ⟨_,_,_,_,_,_,_,_,_,_,_,_,_,_,_,_,_,_,_,_,_,_,_,_,_,_,_,_,_,_,_,_,_,_,_,_,_,_,_,_,_,_,_,_,_,_,_,_,_,_,_,_,_,_,_,rfl⟩
      | true=>
        rw [hb,if_pos rfl] at hr
        rw [hov,hb] at kt
        by_cases hp:0≤x.pos
        · have d1:decide (0≤x.pos)=true:=by simpa using hp
          rw [if_pos hp] at hr
          obtain ⟨r1,hr1,rfl⟩:=Option.map_eq_some_iff.1 hr
          have Hr1:=Lib.hid hr1
          clear hr hr1 Hr
          have c_kt:=f3 kt;have l_ktw:=lt_of kt
          go_wp2_with fail
          refine (pInsert_calls x hp hok.hi hok.len hok.rate r1 Hr1.out _ hT).mono ?_
          rintro e1 W1 ⟨rfl,O1,hT1,hf1⟩
          clear kt c_kt
          go_wp2_with fail
          go_step3
          refine ⟨rfl,0,r1.1,r1.2,O1,⟨hT1,hf1,Lib.hid rfl⟩,?_⟩
          exact ⟨_,_,_,_,_,_,_,_,_,_,_,_,_,_,_,_,_,_,_,_,_,_,_,_,_,_,_,_,_,_,_,_,_,_,_,_,_,_,_,_,_,_,_,_,_,_,_,_,_,_,_,_,_,_,_,rfl⟩
        · have d1:decide (0≤x.pos)=false:=by simpa using hp
          rw [if_neg hp] at hr
          cases hr
          clear Hr
          have hA:=hT.hA
          have o_kt:=hT.no
          have c_kt:=f3 kt;have l_ktw:=lt_of kt
          go_wp2_with fail
          refine wg fun V hV_V=> ?_
          have hF:=Fr.refl ((oneX tb)) O w
          refine nef1 hV_V hA hF kt ?_;clear hA hF kt c_kt;intro z_V hA hF kt c_kt
          clear hV_V
          refine dr (fun v=>(v.cell? ⟨tb,0,none⟩=V.cell? ⟨tb,0,none⟩)∧(v.cell? ⟨tb,5,none⟩=V.cell? ⟨tb,5,none⟩)∧(v.cell? ⟨tb,6,none⟩=V.cell? ⟨tb,6,none⟩)∧(v.cell? ⟨tb,7,none⟩=V.cell? ⟨tb,7,none⟩)∧(v.cell? ⟨tb,8,none⟩=V.cell? ⟨tb,8,none⟩)∧(V.heap.size≤v.heap.size)∧True) ⟨rfl,rfl,rfl,rfl,rfl,Nat.le_refl _,trivial⟩ fun Vd hV_Vd hHeld=> ?_
          have v_kt:=c_kt.1
          refine nef1 hV_Vd hA hF kt ?_;clear hA hF kt c_kt;intro z_Vd hA hF kt c_kt
          clear hV_Vd
          refine ta 0 hHeld ?_
          refine ta 1 hHeld ?_
          refine ta 2 hHeld ?_
          refine ta 3 hHeld ?_
          refine ta 4 hHeld ?_
          refine ta 5 hHeld ?_
          refine ta 6 hHeld ?_
          refine ta 7 hHeld ?_
          refine ta 8 hHeld ?_
          refine rd 9 rfl fun K hK=> ?_
          go_simp
          try simp only [IntWalk.i64_left]
          refine wC (vMake_calls x.p _ hA) fun W O1 hA_W hf_W=> ?_
          refine wif1 hf_W hF kt o_kt ?_;clear hA hF kt o_kt c_kt hf_W;intro z_W hF kt c_kt o_kt;have hA:=hA_W;clear hA_W
          refine ho hK ⟨vo c_kt v_kt 0,vo c_kt v_kt 5,vo c_kt v_kt 6,vo c_kt v_kt 7,vo c_kt v_kt 8,by omega,trivial⟩ fun hHeld=> ?_
          clear hK K
          refine ta 10 hHeld ?_
          refine ta 11 hHeld ?_
          refine ta 12 hHeld ?_
          refine ta 13 hHeld ?_
          refine ta 14 hHeld ?_
          refine rd 15 rfl fun K hK=> ?_
          go_simp
          refine ga (K:=K) fun D hV_D=> ?_
          refine nef1 hV_D hA hF kt ?_;clear hA hF kt c_kt;intro z_D hA hF kt c_kt
          clear hV_D
          refine ho hK ⟨vo c_kt v_kt 0,vo c_kt v_kt 5,vo c_kt v_kt 6,vo c_kt v_kt 7,vo c_kt v_kt 8,by omega,trivial⟩ fun hHeld=> ?_
          clear hK K
          refine rd 16 rfl fun K hK=> ?_
          go_simp
          refine ho hK hHeld fun hHeld=> ?_
          clear hK K
          refine wd ?_
          go_wp2_with fail
          refine cg fun V2 hV_V2=> ?_
          refine nef1 hV_V2 hA hF kt ?_;clear hA hF kt c_kt;intro z_V2 hA hF kt c_kt
          clear hV_V2
          refine tC (pStop_calls {x with s:=(vMake x.s x.p).2.2,begun:=true,over:=false,root:=(vMake x.s x.p).1} _ ⟨hA,kt,o_kt⟩) fun W2 O2 hT hf=> ?_
          refine ti0 hT.hA hT.blk hT.no hf hF ?_;clear hA hF kt c_kt o_kt hT hf;intro z_W2 hA hF kt c_kt o_kt
          go_wp2_with fail
          simp only [Exit.jump]
          go_ret2
          exact ⟨rfl,O2,⟨hA,kt,o_kt⟩,hF⟩
  case pass=>
    rintro n a' wr ⟨e,x1,O1,⟨hT1,hF1,hq⟩,u1,u2,u3,u5,u6,u7,u8,u9,u10,u11,u12,u13,u14,u15,u16,u17,u18,u19,u20,u21,u22,u23,u24,u25,u26,u27,u28,u29,u30,u31,u32,u33,u34,u35,u36,u37,u38,u39,u40,u41,u42,u43,u44,u45,u46,u47,u48,u49,u50,u51,u52,u53,u54,u55,u56,rfl⟩ J hJ
    clear hJ
    have hqo:=hq.out
    unfold Pt.asked at hqo
    by_cases he:e=0
    · subst he
      rw [if_pos rfl] at hqo
      subst hqo
      have kt:=hT1.blk
      have c_kt:=f3 kt;have l_ktwr:=lt_of kt
      go_wp2_with fail
      simp only [Exit.jump]
      go_ret2
      exact ⟨rfl,O1,hT1,hF1⟩
    · rw [if_neg he] at hqo
      subst hqo
      have d1:(e !=0)=true:=by simpa using he
      clear he hq
      go_wp2_with fail
      refine (pStop_calls x1 _ hT1).mono ?_
      rintro e2 W2 ⟨rfl,O2,hT2,hf2⟩
      have kt:=hT2.blk
      have HF:=Lib.hid (hF1.trans hf2)
      clear hF1 hf2
      have c_kt:=f3 kt;have l_ktW2:=lt_of kt
      go_wp2_with fail
      simp only [Exit.jump]
      go_ret2
      exact ⟨rfl,O2,hT2,HF.out⟩
end
end Go.Proofs.YtmlmnmkhigjaaaaGreat

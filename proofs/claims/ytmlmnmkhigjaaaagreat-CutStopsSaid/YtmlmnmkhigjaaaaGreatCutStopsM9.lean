/- Part 9 of what CutStops needs: the walks of the program's functions, and plain facts. -/
import Derived.Test.YtmlmnmkhigjaaaaGreatCutStopsM8
import Derived.Deep.CutRange
set_option linter.unusedSimpArgs false
set_option linter.unusedVariables false
set_option linter.unnecessarySimpa false
namespace Go.Proofs.YtmlmnmkhigjaaaaGreat
set_option maxRecDepth 100000
set_option maxHeartbeats 8000000
section
open Go.RowKit
attribute [local go_sem ↓] Go.wp_at_zero Go.wp_at_succ
variable {ap : Value} {s : Ar} {O : Nat → Prop}
theorem str_lenU (l:List UInt8) (w:World):(Builtin.len_ #[9] 3 #[.string ⟨l.toArray⟩]).run Tryz.prog w= .ok (.int .i64 (l.length:Int)) w:=str_len l w
def DRows (w:World) (base:Nat) (p1 p2:Value) (ds:Docs):Prop:=Ow2 w base 9 1 p1 ds.length ((ds.map (·.2)).map strOf) 140 2 p2 ds.length (itemCells (docsM ds))
def RRows (w:World) (base:Nat) (p1 p2:Value) (rate:Int) (ds:Docs) (R:List (Nat×Nat)):Prop:=Ow2 w base 4 1 p1 R.length ((R.map (mkR rate)).map fun x=> .bool x) 140 2 p2 (R.filter (mkR rate)).length (itemCells ((R.filter (mkR rate)).map (spR ds)))
theorem own_kept2 {w w' w3:World} {base n:Nat} {e:TypeId} {size:Nat} {v v1:Value} {xs:List Value} (h:w.ownsRow base e size v n xs) (hb:Below w.heap.size w w') (hg:w'.grownBy w3 v1.ownBlock) (hne: ∀k,v1.ownBlock=some k→v.ownBlock≠some k):w3.ownsRow base e size v n xs:=by
  refine (own_below h hb).kept hg ?_
  cases h2:v.ownBlock with
  | none=>exact .inl rfl
  | some k=>exact .inr fun e=>hne k e.symm h2
theorem docsM_snoc (ds:Docs) (d:Int×List UInt8):docsM (ds++[d])=docsM ds++[(d.1,(d.2.length:Int))]:=by unfold docsM;simp
section
attribute [local go_sem] str_lenU
theorem check_no (root rate : Int) (vl : Value) (h : ¬ (vIs s root = true ∧ 1 ≤ rate ∧ rate ≤ 16)) (w : World) (hA : AP w ap s O) :
    Calls Tryz.prog 35 #[ap, .int .i64 root, .int .i64 rate,vl] w fun e w'=>e= .returned (.bool false)∧Below w.heap.size w w':=by
  cases hv:vIs s root with
  | false=>
    go_enter Tryz.func35,Tryz.ntmps35
    go_wp2_with fail
    refine cg fun V hV_V=> ?_
    have hB:=Below.refl w.heap.size w
    refine nea0 hV_V hA hB ?_;clear hA hB;intro z_V hA hB
    clear hV_V
    refine rC (vOf_calls _ _ hA) fun W1 hb_W1=> ?_
    refine bea0 hb_W1 hA hB ?_;clear hb_W1 hA hB;intro z_W1 hA hB
    unfold Parts.val
    rw [hv]
    go_wp2_with fail
    go_ret
    exact ⟨rfl,bel⟩
  | true=>
    by_cases h1:rate<1
    · go_enter Tryz.func35,Tryz.ntmps35
      go_wp2_with fail
      refine cg fun V hV_V=> ?_
      have hB:=Below.refl w.heap.size w
      refine nea0 hV_V hA hB ?_;clear hA hB;intro z_V hA hB
      clear hV_V
      refine rC (vOf_calls _ _ hA) fun W1 hb_W1=> ?_
      refine bea0 hb_W1 hA hB ?_;clear hb_W1 hA hB;intro z_W1 hA hB
      unfold Parts.val
      rw [hv]
      go_wp2_with fail
      go_ret
      exact ⟨rfl,bel⟩
    · have h2 : 16 < rate := by
        rcases Int.lt_or_le 16 rate with h2|h2
        · exact h2
        · exact absurd ⟨hv,by omega,h2⟩ h
      go_enter Tryz.func35,Tryz.ntmps35
      go_wp2_with fail
      refine cg fun V hV_V=> ?_
      have hB:=Below.refl w.heap.size w
      refine nea0 hV_V hA hB ?_;clear hA hB;intro z_V hA hB
      clear hV_V
      refine rC (vOf_calls _ _ hA) fun W1 hb_W1=> ?_
      refine bea0 hb_W1 hA hB ?_;clear hb_W1 hA hB;intro z_W1 hA hB
      unfold Parts.val
      rw [hv]
      go_wp2_with fail
      go_ret
      exact ⟨rfl,bel⟩
theorem check_end (root rate : Int) (ds : Docs) (r : Bool) (hr : vCheck s root rate ds = some r) (h1 : vIs s root = true ∧ 1 ≤ rate ∧ rate ≤ 16) (h2 : refRight (txt ds) = true) :
    ∃a,lAll s (vOf s root).table=some a∧a.length≤50000∧((a==docsM ds)=false∧r=false∨(a==docsM ds)=true∧
      ∃b,wAll s (vOf s root).wave=some b∧b.length≤50000∧((b==symsM (txt ds))=false∧r=false∨(b==symsM (txt ds))=true∧
      ∃c,bAll s (vOf s root).marks=some c∧c.length≤50000∧((c==marksM rate (txt ds))=false∧r=false∨(c==marksM rate (txt ds))=true∧
      ∃d,lAll s (vOf s root).spots=some d∧d.length≤50000∧r=(d==spotsM rate ds)))):=by
  unfold vCheck at hr
  rw [if_pos h1,if_pos h2] at hr
  obtain ⟨a,ha,hr⟩:=Option.bind_eq_some_iff.1 hr
  by_cases la:a.length≤50000
  · rw [if_pos la] at hr
    refine ⟨a,ha,la,?_⟩
    cases ea:(a==docsM ds) with
    | false=>rw [ea,if_neg (by decide)] at hr;exact .inl ⟨rfl,(Option.some.inj hr).symm⟩
    | true=>
      rw [ea,if_pos rfl] at hr
      obtain ⟨b,hb,hr⟩:=Option.bind_eq_some_iff.1 hr
      by_cases lb:b.length≤50000
      · rw [if_pos lb] at hr
        refine .inr ⟨rfl,b,hb,lb,?_⟩
        cases eb:(b==symsM (txt ds)) with
        | false=>rw [eb,if_neg (by decide)] at hr;exact .inl ⟨rfl,(Option.some.inj hr).symm⟩
        | true=>
          rw [eb,if_pos rfl] at hr
          obtain ⟨c,hc,hr⟩:=Option.bind_eq_some_iff.1 hr
          by_cases lc:c.length≤50000
          · rw [if_pos lc] at hr
            refine .inr ⟨rfl,c,hc,lc,?_⟩
            cases ec:(c==marksM rate (txt ds)) with
            | false=>rw [ec,if_neg (by decide)] at hr;exact .inl ⟨rfl,(Option.some.inj hr).symm⟩
            | true=>
              rw [ec,if_pos rfl] at hr
              obtain ⟨d,hd,hr⟩:=Option.bind_eq_some_iff.1 hr
              by_cases ld:d.length≤50000
              · rw [if_pos ld] at hr
                exact .inr ⟨rfl,d,hd,ld,(Option.some.inj hr).symm⟩
              · rw [if_neg ld] at hr;cases hr
          · rw [if_neg lc] at hr;cases hr
      · rw [if_neg lb] at hr;cases hr
  · rw [if_neg la] at hr;cases hr
theorem check_yes (root rate : Int) (ds : Docs) (vl : Value) (r : Bool) (hr : vCheck s root rate ds = some r) (hc : vIs s root = true ∧ 1 ≤ rate ∧ rate ≤ 16) (hn : ds.length ≤ 50000) (h40 : ∀ t, t ∈ txt ds → t.length ≤ 50000) (w : World) (hA : AP w ap s O) (hd : Rd2 w vl ds) :
    Calls Tryz.prog 35 #[ap, .int .i64 root, .int .i64 rate,vl] w fun e w'=>e= .returned (.bool r)∧Below w.heap.size w w':=by
  obtain ⟨hv,hr1,hr2⟩:=hc
  have HR:=Lib.hid hr;have HN:=Lib.hid hn;have H40:=Lib.hid h40;have HV:=Lib.hid hv
  have HD:=Lib.hid hd
  have htl:(txt ds).length=ds.length:=by simp
  have HTL:=Lib.hid htl
  obtain ⟨A,cap,rfl, -⟩:=hd
  have r1:decide (rate<1)=false:=by simp;omega
  have r2:decide (16<rate)=false:=by simp;omega
  have r0:rate≠0:=by omega
  have HRT:=Lib.hid (And.intro hr1 hr2)
  clear hr hn h40 hr1 hr2 htl
  go_enter Tryz.func35,Tryz.ntmps35
  go_wp2_with fail
  refine cg fun V hV_V=> ?_
  have hB:=Below.refl w.heap.size w
  refine nea0 hV_V hA hB ?_;clear hA hB;intro z_V hA hB
  clear hV_V
  refine rC (vOf_calls _ _ hA) fun W1 hb_W1=> ?_
  refine bea0 hb_W1 hA hB ?_;clear hb_W1 hA hB;intro z_W1 hA hB
  unfold Parts.val
  rw [hv]
  have HW1:=hB.size
  go_wp2_with fail
  refine wg fun V1 hV_V1=> ?_
  refine nna0 hV_V1 hA hB ?_;clear hA hB;intro hn_V1 z_V1 hA hB
  obtain ⟨kp,c_kp,o_kp,l_kpV1⟩:=nN hn_V1 hV_V1 (W1.heap.size)
  clear hV_V1 hn_V1
  have HA1:=Lib.hid hA;have HB1:=Lib.hid hB;have KP:=Lib.hid kp;have HD1:=Lib.hid (HD.out.below hB)
  have hz1:=hB.size
  clear hA hB kp c_kp hv
  generalize hkb:W1.heap.size=kb at*
  go_loopg [11,12,38] ds.length (fun k p1 p2 q wr=> ∃i:Nat,q= .int .i64 (i:Int)∧i+k=ds.length∧Hid (DRows wr V1.heap.size p1 p2 (ds.take i))∧Hid (Below V1.heap.size V1 wr))
  case atStart=>exact ⟨0,rfl,by omega,Lib.hid (Ow2.nil _ _ _ _ _ _),Lib.hid (Below.refl _ _)⟩
  case round=>
    obtain ⟨i,rfl,hk,Hrow,HB⟩:=hrel
    have hw1:=HB.out.size
    by_cases hlt:i<ds.length
    · obtain ⟨k,rfl⟩: ∃k,gk=k+1:=⟨gk - 1,by omega⟩
      obtain ⟨d,hdi⟩:=at_some hlt
      obtain ⟨A',cap',hv,h2⟩:=HD1.out.below HB.out
      obtain ⟨ad,rfl,hg,hc⟩:=h2 (by omega)
      obtain ⟨rfl, -,rfl⟩:=Value.slice.inj hv
      obtain ⟨hlb,c1,c2⟩:=hc i d hdi
      have n1:decide ((i:Int)<(ds.length:Int))=true:=by simpa using hlt
      have n2:(i:Int)<(ds.length:Int):=by omega
      have hN:=HN.out
      have E3:=Lib.hid (step_wrap i 50000 (by omega) (by omega))
      have hi5:i≤50000:=by omega
      have htake:Hid (ds.take (i+1)=ds.take i++[d]):=Lib.hid (by rw [List.take_succ_eq_append_getElem hlt,(List.getElem_eq_iff hlt).2 hdi])
      have hil:(ds.take i).length=i:=by rw [List.length_take];omega
      have hR:=Hrow.out
      unfold DRows at hR
      rw [hil] at hR
      have HRow:=Lib.hid hR
      have HL1:=Lib.hid hR.a.lt;have HL2:=Lib.hid hR.b.lt
      have HNE:=Lib.hid hR.ne
      replace c2:wr.cell? ⟨(ad.add (i*2)).block,(ad.add (i*2)).off+1,none⟩=some (.string ⟨d.2.toArray⟩):=c2
      clear h2 hc hv hdi hR Hrow hil hN
      go_wp2_with (
        at_builtin
        first
        | (refine wpList_push2 _ (by rfl) _ _ 75 (by rfl) (V1.heap.size) 9 (.string ⟨#[]⟩) 1 16 Tryz.underlying75 (by kernel_rfl) (by rfl) (by omega) _ _ _ (by rfl) (own_below HRow.out.a (by (repeat' first | with_reducible assumption | with_reducible exact Below.refl _ _ | with_reducible refine Below.alloc ?_ ?_ _ | with_reducible refine Below.setCell ?_ ?_ _ | with_reducible refine below_drewN ?_ _ | with_reducible refine Below.drew ?_ | exact Nat.le_refl _ | ((try dsimp only); omega) | (simp only [siz_alloc, siz_set]; omega)))) _ (by rfl) (by rw [siz_alloc]; rfl) (by simp [Value.oneCell']) (by unfold maxLen; omega) (by omega) (by simp only [siz_alloc, siz_set]; omega) ?_
           intro g_W c_W W3 hown_W hlow_W hlt_W hgr_W hat_W
           have kd:=(hgr_W.block wr.heap.size (by rw [siz_alloc];omega) (fun e=>by have:=HL1.out _ e.symm;omega)).trans (blk_new wr _ _ rfl)
           have HHob:=Lib.hid (own_kept2 HRow.out.b (show Below wr.heap.size wr _ from bel) hgr_W HNE.out)
           have c_kd:=cells_of kd
           have f_kd:=free_of kd
           have l_kd:=lt_of kd
           have hz3:=hgr_W.size
           rw [siz_alloc] at hz3
           have HLow3:=Lib.hid (low_step HB.out (Nat.le_refl _) (Below.trans (bel) hlow_W))
           have Hown:=Lib.hid hown_W
           have Hgr:=Lib.hid hgr_W
           have Hat:=Lib.hid hat_W
           clear hown_W hgr_W hat_W hlow_W)
        | (refine wpList_push2 _ (by rfl) _ _ 146 (by rfl) (V1.heap.size) 140 (.agg #[.int .i64 0, .int .i64 0]) 2 16 Tryz.underlying146 (by kernel_rfl) (by rfl) (by omega) _ _ _ (by rfl) HHob.out _ (by rfl) (by rfl) (by simp [Value.oneCell']) (by unfold maxLen; omega) (by omega) (by omega) ?_
           intro g_X c_X W5 hown_X hlow_X hlt_X hgr_X hat_X
           have Hown2:=Lib.hid hown_X
           have Hgr2:=Lib.hid hgr_X
           have Hat2:=Lib.hid hat_X
           have HLow5:=Lib.hid hlow_X
           clear hown_X hgr_X hat_X hlow_X))
      go_wp2_with fail
      go_roundg k
      case measure=>omega
      case rel=>
        refine ⟨i+1,by first|rfl|(rw [E3.out];rfl),by omega,Lib.hid ?_,Lib.hid (low_step HLow3.out (Nat.le_refl _) HLow5.out)⟩
        have h3:=(HRow.out.below (show Below wr.heap.size wr _ from bel)).push Hown.out Hgr.out Hat.out
        have h5:=(h3.swap.push Hown2.out Hgr2.out Hat2.out).swap
        unfold DRows
        rw [htake.out,docsM_snoc,itemCells_append,List.map_append,List.map_append,List.length_append,List.length_take,Nat.min_eq_left (by omega)]
        exact h5
    · have hi:i=ds.length:=by omega
      have n1:decide ((i:Int)<(ds.length:Int))=false:=by simpa using hlt
      have hrow:=Hrow.out
      rw [hi,List.take_length] at hrow
      have HRW:=Lib.hid hrow
      clear hrow Hrow hk
      go_wp2_with fail
      refine (rowsSorted_calls _ (txt ds) (by rw [HTL.out];exact HN.out) _ (by rw [HTL.out];exact Rk.of_own HRW.out.a)).mono ?_
      rintro e2 W2 ⟨v2,rfl,hrk,hb2⟩
      have HX2:=Lib.hid (below_step HB.out hb2)
      have HRW2:=Lib.hid (Ow2.below HRW.out hb2)
      have hw2:=HX2.out.size
      obtain ⟨R,hR⟩: ∃R,R=refSorted (txt ds):=⟨_,rfl⟩
      rw [←hR] at hrk
      have hsm:R.length≤500:=by rw [hR];exact sorted_small _
      have Hval:Hid (∀x,x∈R→ ∃t,(txt ds)[x.1]? =some t∧x.2≤t.length):=Lib.hid (fun x hx=>sorted_valid (hR▸hx))
      have HRR:=Lib.hid hR
      have HRK:=Lib.hid hrk
      obtain ⟨-,A2,c2,rfl, -⟩:=hrk
      clear hR hb2 HB HRW n1 hi hlt
      go_wp2_with fail
      go_loopg [13,14,60] R.length (fun k p13 p14 q wr=> ∃i:Nat,q= .int .i64 (i:Int)∧i+k=R.length∧Hid (RRows wr W2.heap.size p14 p13 rate ds (R.take i))∧Hid (Below W2.heap.size W2 wr))
      case atStart=>exact ⟨0,rfl,by omega,Lib.hid (Ow2.nil _ _ _ _ _ _),Lib.hid (Below.refl _ _)⟩
      case round=>
        obtain ⟨i,rfl,hk,Hrow,HB⟩:=hrel
        have hwr:=HB.out.size
        by_cases hlt:i<R.length
        · obtain ⟨k,rfl⟩: ∃k,gk=k+1:=⟨gk - 1,by omega⟩
          obtain ⟨x,hx⟩:=at_some hlt
          obtain ⟨t,ht,hxt⟩:=Hval.out x (List.mem_of_getElem? hx)
          obtain ⟨-,A',cap',hv,h2⟩:=HRK.out.below HB.out
          obtain ⟨g1,cs1,T1,rfl,kg1,hcs1⟩:=h2 (by omega)
          obtain ⟨rfl, -,rfl⟩:=Value.slice.inj hv
          have c1a:cs1[i*2]? =some (.int .i64 (x.1:Int)):=(hcs1 _ (by omega)).trans (rowCells_at hx).1
          have c1b:cs1[i*2+1]? =some (.int .i64 (x.2:Int)):=(hcs1 _ (by omega)).trans (rowCells_at hx).2
          clear h2 hv hcs1
          have n1:decide ((i:Int)<(R.length:Int))=true:=by simpa using hlt
          have n2:(i:Int)<(R.length:Int):=by omega
          have E3:=Lib.hid (step_wrap i 500 (by omega) (by omega))
          have htake:Hid (R.take (i+1)=R.take i++[x]):=Lib.hid (by rw [List.take_succ_eq_append_getElem hlt,(List.getElem_eq_iff hlt).2 hx])
          have hil:(R.take i).length=i:=by rw [List.length_take];omega
          have hfl:((R.take i).filter (mkR rate)).length≤500:=by have:=List.length_filter_le (mkR rate) (R.take i);omega
          have hR:=Hrow.out
          unfold RRows at hR
          rw [hil] at hR
          have HRow:=Lib.hid hR
          have HL1:=Lib.hid hR.a.lt;have HL2:=Lib.hid hR.b.lt
          have HNE:=Lib.hid hR.ne
          clear hR Hrow hil
          by_cases hm:(x.2:Int) % rate=0
          · have m1:((x.2:Int) % rate==0)=true:=by rw [hm];rfl
            have hmk:Hid (mkR rate x=true):=Lib.hid (decide_eq_true hm)
            have hdx:x.1<ds.length:=by have:=(List.getElem?_eq_some_iff.1 ht).1;rw [HTL.out] at this;exact this
            obtain ⟨d,hdi⟩:=at_some hdx
            have Hsp:Hid (spR ds x=(d.1,(x.2:Int))):=Lib.hid (by unfold spR;simp [List.getD,hdi])
            have Hdi:=Lib.hid hdi
            have n3:(x.1:Int)<(ds.length:Int):=by omega
            clear hm hdi ht hxt
            have c_kg1:=f3 kg1;have l_kg1wr:=lt_of kg1
            go_wp2_with (
              at_builtin
              (refine wpList_push2 _ (by rfl) _ _ 128 (by rfl) (W2.heap.size) 4 (.bool false) 1 1 Tryz.underlying128 (by kernel_rfl) (by rfl) (by omega) _ _ _ (by rfl) (own_below HRow.out.a (bel)) _ (by rfl) (by rw [siz_alloc];rfl) (by simp [Value.oneCell']) (by unfold maxLen;omega) (by omega) (by simp only [siz_alloc,siz_set];omega) ?_
               intro g_W c_W W3 hown_W hlow_W hlt_W hgr_W hat_W
               have kr:=(hgr_W.block wr.heap.size (by rw [siz_alloc];omega) (fun e=>by have:=HL1.out _ e.symm;omega)).trans (blk_new wr _ _ rfl)
               have h3:=Lib.hid ((HRow.out.below (show Below wr.heap.size wr _ from bel)).push hown_W hgr_W hat_W)
               have HLow3:=Lib.hid (low_step HB.out (Nat.le_refl _) (Below.trans (bel) hlow_W))
               have hz3:=hgr_W.size
               rw [siz_alloc] at hz3
               clear hown_W hgr_W hat_W hlow_W))
            go_wp2_with fail
            refine wp_gen fun V3 hV3=> ?_
            have hb3:Below W3.heap.size W3 V3:=by rw [hV3];(repeat' first|with_reducible assumption|with_reducible exact Below.refl _ _|with_reducible refine Below.alloc ?_ ?_ _|with_reducible refine Below.setCell ?_ ?_ _|with_reducible refine below_drewN ?_ _|with_reducible refine Below.drew ?_|exact Nat.le_refl _|((try dsimp only);omega)|(simp only [siz_alloc,siz_set];omega))
            clear hV3
            have hzv:=hb3.size
            have HX3:=Lib.hid (below_step HX2.out HLow3.out)
            have HX4:=Lib.hid (below_step HX3.out hb3)
            obtain ⟨ad,hvl,hlb,c1d⟩: ∃ad,A=some ad∧(ad.add (x.1*2)).block<W2.heap.size∧V3.cell? (ad.add (x.1*2))=some (.int .i64 d.1):=by
              obtain ⟨A',cap',hv,h2⟩:=HD1.out
              obtain ⟨ad,rfl,hg,hc⟩:=h2 (by omega)
              obtain ⟨rfl, -, -⟩:=Value.slice.inj hv
              obtain ⟨q1,q2, -⟩:=hc x.1 d Hdi.out
              exact ⟨ad,rfl,by omega,(HX4.out.cell (by exact q1)).trans q2⟩
            subst hvl
            replace kr:=keep_blk hb3 kr
            have H3:=Lib.hid (h3.out.below hb3)
            have HLow4:=Lib.hid (low_step HLow3.out (Nat.le_refl _) (hb3.mono (by have:=HLow3.out.size;omega)))
            have hL3:=H3.out.b.lt
            have HLb:=Lib.hid hlb
            clear hb3 c_kg1 kg1
            have c_kr:=f3 kr;have l_krV3:=lt_of kr
            have hadb:V3.heap.size≥W2.heap.size:=by have:=HLow4.out.size;omega
            refine wp_region_noPanic ?_
            refine wp_region_held_drew (S:=fun v=>(v.cell? (ad.add (x.1*2))=some (.int .i64 d.1))∧(∀o,v.cell? ⟨wr.heap.size,o,none⟩=V3.cell? ⟨wr.heap.size,o,none⟩)∧Below W2.heap.size V3 v) (by kernel_rfl) ⟨c1d,fun _=>rfl,(Below.refl _ _).drew⟩ (fun hHeld=> ?_)
            have hB_d:Below V3.heap.size V3 V3.drew:=(Below.refl _ _).drew
            generalize V3.drew=V3d at hHeld hB_d⊢
            refine ta 0 hHeld ?_
            refine ta 1 hHeld ?_
            refine ta 2 hHeld ?_
            refine ta 3 hHeld ?_
            refine ta 4 hHeld ?_
            refine ta 5 hHeld ?_
            refine ta 6 hHeld ?_
            refine ta 7 hHeld ?_
            refine ta 8 hHeld ?_
            refine ta 9 hHeld ?_
            have hown3:=Lib.hid (own_below H3.out.b hB_d)
            have hH3d:=Lib.hid (Ow2.below H3.out hB_d)
            have hlow3d:=Lib.hid hHeld.2.2
            have heq3:=Lib.hid hHeld.2.1
            have hz3d:=hB_d.size
            have hS: ∀v,(∀o,v.cell? ⟨wr.heap.size,o,none⟩=V3.cell? ⟨wr.heap.size,o,none⟩)→Below W2.heap.size V3 v→((v.cell? (ad.add (x.1*2))=some (.int .i64 d.1))∧(∀o,v.cell? ⟨wr.heap.size,o,none⟩=V3.cell? ⟨wr.heap.size,o,none⟩)∧Below W2.heap.size V3 v):=fun v h1 h2=>⟨(h2.cell (by exact hlb)).trans c1d,h1,h2⟩
            have HS:=Lib.hid hS
            clear c1d hS
            refine rd 10 rfl fun K hK=> ?_
            go_simp
            refine ho hK (HS.out _ (fun o=>(((Below.refl V3d.heap.size V3d).alloc (Nat.le_refl _) _).cell (by show wr.heap.size<V3d.heap.size;omega)).trans (heq3.out o)) (hlow3d.out.alloc (by omega) _)) fun hHeld=> ?_
            clear hK K
            refine rd 11 rfl fun K hK=> ?_
            refine step_push2 _ (by rfl) _ _ 146 (by rfl) (W2.heap.size) 140 (.agg #[.int .i64 0, .int .i64 0]) 2 16 Tryz.underlying146 (by kernel_rfl) (by rfl) (by omega) _ _ _ (by rfl) hown3.out _ (by rfl) (by rfl) (by simp [Value.oneCell']) (by unfold maxLen;omega) (by omega) (by omega) ?_
            intro g_X c_X W5 hown_X hlow_X hlt_X hgr_X hat_X
            refine ho hK (HS.out _ (fun o=>(World.cell?_of_block (hgr_X.block wr.heap.size (by omega) (fun e=>by have:=HL2.out _ e.symm;omega))).trans (heq3.out o)) (hlow3d.out.trans hlow_X)) fun hHeld=> ?_
            clear hK K
            refine rd 12 rfl fun K hK=> ?_
            go_simp
            refine ho hK hHeld fun hHeld=> ?_
            clear hK K
            refine wpAnyH_done (by kernel_rfl) ?_ _
            refine NoPanic.normal ?_
            have H5:=Lib.hid (hH3d.out.swap.push hown_X hgr_X hat_X).swap
            have HLow5:=Lib.hid (low_step (low_step HLow4.out (Nat.le_refl _) hlow3d.out) (Nat.le_refl _) hlow_X)
            clear hHeld hown_X hlow_X hgr_X hat_X
            go_wp2_with fail
            go_roundg k
            case measure=>omega
            case rel=>
              refine ⟨i+1,by first|rfl|(rw [E3.out];rfl),by omega,Lib.hid ?_,HLow5⟩
              have h5:=H5.out
              unfold RRows
              have e1:[x].map (spR ds)=[(d.1,(x.2:Int))]:=by rw [List.map_cons,List.map_nil,Hsp.out]
              have e2:[x].map (mkR rate)=[true]:=by rw [List.map_cons,List.map_nil,hmk.out]
              rw [htake.out,List.map_append,e2,List.map_append,List.filter_append,List.filter_cons_of_pos (by rw [hmk.out]),List.filter_nil,List.map_append,e1,itemCells_append,List.length_append,List.length_append,List.length_take,Nat.min_eq_left (by omega)]
              exact h5
          · have m1:((x.2:Int) % rate==0)=false:=by rw [beq_eq_false_iff_ne];exact hm
            have hmk:Hid (mkR rate x=false):=Lib.hid (decide_eq_false hm)
            clear hm
            have c_kg1:=f3 kg1;have l_kg1wr:=lt_of kg1
            go_wp2_with (
              at_builtin
              (refine wpList_push2 _ (by rfl) _ _ 128 (by rfl) (W2.heap.size) 4 (.bool false) 1 1 Tryz.underlying128 (by kernel_rfl) (by rfl) (by omega) _ _ _ (by rfl) (own_below HRow.out.a (bel)) _ (by rfl) (by rw [siz_alloc];rfl) (by simp [Value.oneCell']) (by unfold maxLen;omega) (by omega) (by simp only [siz_alloc,siz_set];omega) ?_
               intro g_W c_W W3 hown_W hlow_W hlt_W hgr_W hat_W))
            go_wp2_with fail
            go_roundg k
            case measure=>omega
            case rel=>
              refine ⟨i+1,by first|rfl|(rw [E3.out];rfl),by omega,Lib.hid ?_,Lib.hid (low_step HB.out (Nat.le_refl _) (Below.trans (bel) hlow_W))⟩
              have h3:=(HRow.out.below (show Below wr.heap.size wr _ from bel)).push hown_W hgr_W hat_W
              unfold RRows
              rw [htake.out,List.map_append,List.map_append,List.filter_append,List.filter_cons_of_neg (by rw [hmk.out];decide),List.filter_nil,List.append_nil,List.length_append,List.length_take,Nat.min_eq_left (by omega),List.map_cons,hmk.out]
              exact h3
        · have hi:i=R.length:=by omega
          have n1:decide ((i:Int)<(R.length:Int))=false:=by simpa using hlt
          have hrow:=Hrow.out
          rw [hi,List.take_length] at hrow
          have HRM:=Lib.hid hrow
          have hBw:=below_step HX2.out HB.out
          have hA:=HA1.out.below hBw
          have kp:=keep_blk hBw KP.out
          have HBW:=Lib.hid (below_step HB1.out hBw)
          have HDW:=Lib.hid (Ow2.below HRW2.out HB.out)
          have hdl:(docsM ds).length=ds.length:=by unfold docsM;simp
          have hHN:=HN.out
          have Rt:Hid (Rk wr 1 u11 (txt ds).length ((txt ds).map strOf)):=Lib.hid (by rw [HTL.out];exact Rk.of_own HDW.out.a)
          clear hrow Hrow hBw HB
          have hB:=Below.refl wr.heap.size wr
          have c_kp:=f3 kp;have l_kpwr:=lt_of kp
          go_wp2_with fail
          refine rC (rowsRight_calls _ (txt ds) (by rw [HTL.out];exact HN.out) _ Rt.out) fun W5 hb_W5=> ?_
          refine bea1 hb_W5 hA hB kp ?_;clear hb_W5 hA hB kp c_kp;intro z_W5 hA hB kp c_kp
          have hr:=HR.out
          cases hrt:refRight (txt ds) with
          | false=>
            have hrf:r=false:=by
              unfold vCheck at hr
              rw [if_pos ⟨HV.out,HRT.out.1,HRT.out.2⟩,hrt,if_neg (by decide)] at hr
              exact (Option.some.inj hr).symm
            subst hrf
            go_wp2_with fail
            go_ret
            exact ⟨rfl,below_step HBW.out hB⟩
          | true=>
            obtain ⟨a,ha,la,hcase⟩:=check_end root rate ds r hr ⟨HV.out,HRT.out.1,HRT.out.2⟩ hrt
            have HC:=Lib.hid hcase
            clear hr hcase hrt
            go_wp2_with fail
            refine (lAll_calls _ a ha la _ hA).mono ?_
            rintro e_W6 W6 ⟨v6,rfl,hown6,hb_W6⟩
            refine bea1 hb_W6 hA hB kp ?_;clear hb_W6 hA hB kp c_kp;intro z_W6 hA hB kp c_kp
            have HX6:=Lib.hid (Rx.of_own hown6)
            have HDB:=Lib.hid ((Rx.of_own HDW.out.b).below hB)
            clear hown6
            go_wp2_with fail
            refine rC (eqItem_calls _ _ a (docsM ds) la (by omega) _ HX6.out (by rw [hdl];exact HDB.out)) fun W7 hb_W7=> ?_
            refine bea1 hb_W7 hA hB kp ?_;clear hb_W7 hA hB kp c_kp;intro z_W7 hA hB kp c_kp
            rcases HC.out with ⟨e,rfl⟩|⟨e,b,hb,lb,hcase⟩
            · rw [e]
              clear e HC
              go_wp2_with fail
              go_ret
              exact ⟨rfl,below_step HBW.out hB⟩
            rw [e]
            have HC2:=Lib.hid hcase
            clear e HC hcase
            go_wp2_with fail
            refine (wAll_calls _ b hb lb _ hA).mono ?_
            rintro e_W8 W8 ⟨v8,rfl,hown8,hb_W8⟩
            refine bea1 hb_W8 hA hB kp ?_;clear hb_W8 hA hB kp c_kp;intro z_W8 hA hB kp c_kp
            have HX8:=Lib.hid (Rx.of_own hown8)
            clear hown8
            go_wp2_with fail
            refine (rowsSymbols_calls _ (txt ds) (by rw [HTL.out];exact HN.out) H40.out _ (Rt.out.below hB)).mono ?_
            rintro e9 W9 ⟨v9,rfl,hown9,hb9⟩
            have HX9:=Lib.hid (HX8.out.below hb9)
            have HY9:=Lib.hid (Rx.of_own hown9)
            replace hA:=hA.below hb9
            replace hB:=below_step hB hb9
            replace kp:=keep_blk hb9 kp
            clear hb9 hown9 c_kp
            have c_kp:=f3 kp;have l_kpW9:=lt_of kp
            have hsy:((refSorted (txt ds)).map (symOf (txt ds))).length≤50000:=by rw [List.length_map];have:=sorted_small (txt ds);omega
            have HY9':Hid (Rx W9 1 v9 ((refSorted (txt ds)).map (symOf (txt ds))).length (((refSorted (txt ds)).map (symOf (txt ds))).map fun x=> .int .i64 x)):=Lib.hid (by rw [List.length_map];exact HY9.out)
            go_wp2_with fail
            refine rC (eqInt_calls _ _ b ((refSorted (txt ds)).map (symOf (txt ds))) lb hsy _ HX9.out HY9'.out) fun W10 hb_W10=> ?_
            refine bea1 hb_W10 hA hB kp ?_;clear hb_W10 hA hB kp c_kp;intro z_W10 hA hB kp c_kp
            rcases HC2.out with ⟨e,rfl⟩|⟨e,c,hcc,lc,hcase⟩
            · unfold symsM at e
              rw [e]
              clear e HC2
              go_wp2_with fail
              go_ret
              exact ⟨rfl,below_step HBW.out hB⟩
            unfold symsM at e
            rw [e]
            have HC3:=Lib.hid hcase
            clear e HC2 hcase
            go_wp2_with fail
            refine (bAll_calls _ c hcc lc _ hA).mono ?_
            rintro e_W11 W11 ⟨v11,rfl,hown11,hb_W11⟩
            refine bea1 hb_W11 hA hB kp ?_;clear hb_W11 hA hB kp c_kp;intro z_W11 hA hB kp c_kp
            have HX11:=Lib.hid (Rx.of_own hown11)
            have HRA:Hid (Rx W11 1 u14 (marksM rate (txt ds)).length ((marksM rate (txt ds)).map fun x=> .bool x)):=Lib.hid (by
              unfold marksM;rw [←HRR.out,List.length_map];exact (Rx.of_own HRM.out.a).below hB)
            have hml:(marksM rate (txt ds)).length≤50000:=by unfold marksM;rw [List.length_map];have:=sorted_small (txt ds);omega
            clear hown11
            go_wp2_with fail
            refine rC (eqBool_calls _ _ c (marksM rate (txt ds)) lc hml _ HX11.out HRA.out) fun W12 hb_W12=> ?_
            refine bea1 hb_W12 hA hB kp ?_;clear hb_W12 hA hB kp c_kp;intro z_W12 hA hB kp c_kp
            rcases HC3.out with ⟨e,rfl⟩|⟨e,d,hdd,ld,hrr⟩
            · rw [e]
              clear e HC3
              go_wp2_with fail
              go_ret
              exact ⟨rfl,below_step HBW.out hB⟩
            rw [e]
            have HC4:=Lib.hid hrr
            clear e HC3 hrr
            go_wp2_with fail
            refine (lAll_calls _ d hdd ld _ hA).mono ?_
            rintro e_W13 W13 ⟨v13,rfl,hown13,hb_W13⟩
            refine bea1 hb_W13 hA hB kp ?_;clear hb_W13 hA hB kp c_kp;intro z_W13 hA hB kp c_kp
            have HX13:=Lib.hid (Rx.of_own hown13)
            have HRB:Hid (Rx W13 2 u13 (spotsM rate ds).length (itemCells (spotsM rate ds))):=Lib.hid (by
              unfold spotsM;rw [←HRR.out,List.length_map];exact (Rx.of_own HRM.out.b).below hB)
            have hsl:(spotsM rate ds).length≤50000:=by unfold spotsM;rw [List.length_map];have h1:=sorted_small (txt ds);have h2:=List.length_filter_le (mkR rate) (refSorted (txt ds));omega
            clear hown13
            go_wp2_with fail
            refine rC (eqItem_calls _ _ d (spotsM rate ds) ld hsl _ HX13.out HRB.out) fun W14 hb_W14=> ?_
            refine bea1 hb_W14 hA hB kp ?_;clear hb_W14 hA hB kp c_kp;intro z_W14 hA hB kp c_kp
            go_wp2_with fail
            go_ret
            exact ⟨congrArg (fun b=>Ending.returned (.bool b)) HC4.out.symm,below_step HBW.out hB⟩
theorem check_calls (root rate : Int) (ds : Docs) (vl : Value) (r : Bool) (hr : vCheck s root rate ds = some r) (hn : ds.length ≤ 50000) (h40 : ∀ t, t ∈ txt ds → t.length ≤ 50000) (w : World) (hA : AP w ap s O) (hd : Rd2 w vl ds) :
    Calls Tryz.prog 35 #[ap, .int .i64 root, .int .i64 rate,vl] w fun e w'=>e= .returned (.bool r)∧Below w.heap.size w w':=by
  by_cases hc:vIs s root=true∧1≤rate∧rate≤16
  · exact check_yes root rate ds vl r hr hc hn h40 w hA hd
  · have : r = false := by
      unfold vCheck at hr
      rw [if_neg hc] at hr
      exact (Option.some.inj hr).symm
    rw [this]
    exact check_no root rate vl hc w hA
end
end
section
open Go.RowKit
attribute [local go_sem ↓] Go.wp_at_zero Go.wp_at_succ
attribute [local go_sem] str_len
theorem rd2_cells {W:World} {g:Nat} {cs:Array Value} {T:TypeId} {ds:Docs} (h:W.heap[g]? =some (.cells cs T (0,0))) (hc:cs=(docCells ds).toArray) (hl:ds.length≤1000):Rd2 W (.slice (some ⟨g,0,none⟩) ds.length ds.length) ds:=by
  subst hc
  have:=docCells_length ds
  exact rd2_own (base:=0) ⟨this, .inr ⟨g,ds.length,_,rfl,Nat.zero_le _,h,Nat.le_refl _,by unfold maxLen;omega,by simpa using this,List.take_of_length_le (by simp [this])⟩⟩
theorem alive_right:Right [(1,[97]),(2,[98,97])]:=⟨by decide+kernel,by decide,by decide⟩
theorem alive14_calls (w:World):Calls Tryz.prog 52 #[] w fun e w'=>e= .returned (.bool true)∧Below w.heap.size w w':=by
  have HR:=Lib.hid alive_right
  have HROW:Hid ((rowsM [(1,[97]),(2,[98,97])]).length=5):=Lib.hid (by rw [rows_tot alive_right];rfl)
  go_enter Tryz.func52,Tryz.ntmps52
  go_wp2_with fail
  refine (new_calls 2000 (by omega) (by omega) _).mono ?_
  rintro e1 W1 ⟨p,O,rfl,hA,hO,hb1⟩
  have HS:=Lib.hid (St.new hb1 hA hO)
  clear hA hO hb1
  go_wp2_with fail
  refine calls_gen fun V2 hV2=> ?_
  have HS2:=Lib.hid (HS.out.box _ hV2)
  have hz2:W1.heap.size<V2.heap.size:=by rw [hV2];simp
  clear hV2
  have kg:=HS2.out.at0
  refine (bldG_calls (ds:=[(1,[97]),(2,[98,97])]) 2000 (by omega) HS2.out 2 (by omega) (by omega) HR.out (by decide) (some ⟨W1.heap.size,0,none⟩) 2 (rd2_cells kg rfl (by decide)) (fun a ha _ O _ _ hL=>by cases ha;exact (hL _ (List.mem_singleton.2 rfl)).2)).mono ?_
  rintro e3 W3 ⟨root,s,rfl,hS,hI,hwt,hsz,hv,hroot⟩
  have hk:([(1,[97]),(2,[98,97])]:Docs)[0]? =some (1,[97]):=rfl
  obtain ⟨r,r1,r2,r3,r4,r5,r6⟩:=newC_in hI hv HR.out hk
  obtain ⟨c1,c2,c3⟩:=newC_T hI (by simp) hv hk
  have hbz:=hv.busy hI hwt
  rw [HROW.out] at hbz
  have hst:StageC (Ct.new s root 1 1 0) [root] [(1,[97]),(2,[98,97])] 0 (1,[97]) 2 5:= .inl ⟨0,by decide,rfl,c1⟩
  have hlf:=hst.left HR.out hk
  obtain ⟨f,f0,f1,f2⟩:=runC HR.out hk (by simp) 5 _ hst (by
    rw [HROW.out]
    show (s.keep root).busyN+5*costR 5≤(s.keep root).size
    rw [c3,c2.size,hsz]
    have:costR 5=115:=rfl
    simp only [List.length_cons,List.length_nil] at hbz
    omega)
  have hck:vCheck (f 5).s (f 5).root 2 [(2,[98,97])]=some true:=by
    rcases f2 with ⟨a,ha,hj,h3⟩|⟨m,hm,hj,h3⟩|⟨-, -,a,b, -⟩
    · have:([97]:List UInt8).length=1:=rfl
      simp only [this] at ha hj
      omega
    · omega
    · exact b.check_own a (HR.out.era 0) (by omega) (by omega)
  have HF:=Lib.hid f1;have HCK:=Lib.hid hck
  have HLF:Hid ((f 0).left=5):=Lib.hid (by rw [f0];exact hlf)
  have hcon:=hS.cut root 2 1 0 _ r r1 r2 r3 (by omega) (by omega) r4 r5
  rw [r6] at hcon
  have hcon2:Hid _:=Lib.hid hcon
  have HF0:=Lib.hid f0
  clear hS hI hwt hsz hv hroot hk r1 r2 r3 r4 r5 r6 c1 c2 c3 hbz hst hlf f0 f1 f2 hck hcon kg HS HS2
  go_wp2_with fail
  refine hcon2.out.mono ?_
  rintro e4 W4 ⟨b,rfl,h4⟩
  have H4:Hid (Sc w W4 (.pointer (some ⟨p,0,none⟩)) b (f 0) _):=Lib.hid (by rw [HF0.out];exact h4)
  clear h4 hcon2 HF0
  go_wp2_with fail
  refine (H4.out.read fun O A cap hT=>cLeft_calls _ hT).mono ?_
  rintro e5 W5 ⟨rfl,h5⟩
  have H5:=Lib.hid h5
  clear h5 H4
  rw [HLF.out]
  go_wp2_with fail
  go_loopg [7,8,9,41,42,43,44,45,46,47,48,49,50,51,52,53,54,55,56,57] 5 (fun m c c8 c9 d41 d42 d43 d44 d45 d46 d47 d48 d49 d50 d51 d52 d53 d54 d55 d56 d57 wr=> ∃k:Nat,c= .int .i64 (k:Int)∧k+m=5∧Hid (Sc w wr (.pointer (some ⟨p,0,none⟩)) b (f k) [(W1.heap.size, .cells #[.int .i64 1, .string ⟨#[97]⟩, .int .i64 2, .string ⟨#[98,97]⟩] 34 (0,0))]))
  case atStart=>exact ⟨0,rfl,by omega,H5⟩
  case round=>
    obtain ⟨k,rfl,hk,H⟩:=hrel
    by_cases hlt:k<5
    · obtain ⟨m,rfl⟩: ∃m,gk=m+1:=⟨gk - 1,by omega⟩
      obtain ⟨hok,hst⟩:=HF.out k hlt
      have n1:decide ((k:Int)<5)=true:=by simp;omega
      have e5:wrap64 ((k:Int)+1)=(k:Int)+1:=IntWalk.wrap64_in _ (by omega)
      have HE5:=Lib.hid e5
      have n3:(((k:Int)==4):Bool)=decide (k+1=5):=by
        by_cases e:k=4
        · subst e;rfl
        · rw [decide_eq_false (by omega),beq_eq_false_iff_ne];omega
      have HOK:=Lib.hid hok;have HST:=Lib.hid hst
      clear hok hst e5 hlt
      go_wp2_with fail
      refine (H.out.act fun O A cap hT hR=>cStep_calls (f k) HOK.out _ HST.out _ hT hR).mono ?_
      rintro e4 W6 ⟨rfl,h4⟩
      have H4:=Lib.hid h4
      clear h4
      dsimp only
      rw [←n3]
      go_wp2_with fail
      have e5:=HE5.out
      go_roundg m
      case measure=>omega
      case rel=>exact ⟨k+1,by first|rfl|(rw [e5];rfl),by omega,H4⟩
    · have n1:decide ((k:Int)<5)=false:=by simp;omega
      obtain rfl:k=5:=by omega
      go_upto_region 13 with fail
      have kg:=H.out.at0
      obtain ⟨c_kg,f_kg,l_kg⟩:=f3 kg
      clear kg
      refine wp_region_noPanic ?_
      refine wp_region_held_drew (S:=fun v=>Below wr.heap.size wr v∧(wr.heap.size≤v.heap.size)∧ ∀b o,b<wr.heap.size→v.cell? ⟨b,o,none⟩=wr.cell? ⟨b,o,none⟩) (by kernel_rfl) (HeldB.start wr) (fun hHeld=> ?_)
      have hB_d:Below wr.heap.size wr wr.drew:=(Below.refl _ _).drew
      generalize wr.drew=wrd at hHeld hB_d⊢
      refine ta 0 hHeld ?_
      refine ta 1 hHeld ?_
      refine ta 3 hHeld ?_
      refine ta 4 hHeld ?_
      refine ta 5 hHeld ?_
      refine wpAnyH_ready (rs:=[2,6]) (by kernel_rfl) (by simp) ?_
      refine ready_at rfl (fun K hK=> ?_) (ready_at rfl (fun K hK=> ?_) AllReadyH.nil)
      clear c_kg f_kg
      go_simp
      obtain ⟨O8,A8,cap8,hT8, -⟩:=(H.out.below hHeld.1).ex
      refine (cRoot_calls _ hT8).mono ?_
      rintro e8 w8 ⟨rfl,rfl⟩
      refine ho hK (hHeld) fun hHeld=> ?_
      clear hK K
      clear hT8
      refine rd 6 rfl fun K hK=> ?_
      go_simp
      refine ho hK (HeldB.alloc hHeld _) fun hHeld=> ?_
      clear hK K
      rotate_left
      clear c_kg f_kg
      go_simp
      refine ho hK (HeldB.alloc hHeld _) fun hHeld=> ?_
      clear hK K
      refine rd 2 rfl fun K hK=> ?_
      go_simp
      obtain ⟨O8,A8,cap8,hT8, -⟩:=(H.out.below hHeld.1).ex
      refine (cRoot_calls _ hT8).mono ?_
      rintro e8 w8 ⟨rfl,rfl⟩
      refine ho hK (hHeld) fun hHeld=> ?_
      clear hK K
      clear hT8
      iterate 2
        (skip
         refine rd 7 rfl fun K hK=> ?_
         go_simp
         obtain ⟨O9,A9,cap9,hT9, -⟩:=(H.out.below hHeld.1).ex
         refine (check_calls (f 5).root 2 [(2,[98,97])] _ true HCK.out (by simp) (by simp) _ hT9.hA (rd2_box (blk_new _ _ _ rfl))).mono ?_
         rintro e9 W9 ⟨rfl,hb9⟩
         refine ho hK (HeldB.call hHeld hb9) fun hHeld=> ?_
         clear hK K
         clear hT9 hb9
         refine rd 8 rfl fun K hK=> ?_
         go_simp
         refine ho hK hHeld fun hHeld=> ?_
         clear hK K
         refine wpAnyH_done (by kernel_rfl) ?_ _
         refine NoPanic.normal ?_
         have HBE:=Lib.hid (below_step H.out.bel hHeld.1)
         go_wp2_with fail
         go_ret
         exact ⟨rfl,HBE.out⟩)
end
section
open Go.RowKit
attribute [local go_sem ↓] Go.wp_at_zero Go.wp_at_succ
attribute [local go_sem] str_len
theorem lessD_take {ds:Docs} {id:Int} {i:Nat} {d:Int×List UInt8} (hd:ds[i]? =some d):lessD (ds.take (i+1)) id=lessD (ds.take i) id++(if d.1=id then [] else [d]):=by
  have hi:=(List.getElem?_eq_some_iff.1 hd).1
  unfold lessD
  rw [List.take_succ_eq_append_getElem hi,List.filter_append,(List.getElem_eq_iff hi).2 hd]
  congr 1
  by_cases e:d.1=id
  · rw [if_pos e,List.filter_cons_of_neg (by simpa using e)];rfl
  · rw [if_neg e,List.filter_cons_of_pos (by simpa using e)];rfl
theorem without_calls (v : Value) (ds : Docs) (id : Int) (hl : ds.length ≤ 50000) (w : World) (h : Rd2 w v ds) :
    Calls Tryz.prog 56 #[v, .int .i64 id] w fun e w'=> ∃A cap,e= .returned (.slice A (lessD ds id).length cap)∧Rd2 w' (.slice A (lessD ds id).length cap) (lessD ds id)∧Below w.heap.size w w':=by
  have HK:=Lib.hid h
  obtain ⟨A,cap,rfl,h2⟩:=h
  clear h2
  go_enter Tryz.func56,Tryz.ntmps56
  go_wp2_with fail
  go_loopg [5,7,10] ds.length (fun k p z q wr=> ∃i:Nat,q= .int .i64 (i:Int)∧i+k=ds.length∧Hid (wr.ownsRow w.heap.size 34 2 p (lessD (ds.take i) id).length (docCells (lessD (ds.take i) id)))∧Hid (Below w.heap.size w wr))
  case atStart=>exact ⟨0,rfl,by omega,Lib.hid (own_nil _ _ _ _),Lib.hid (Below.refl _ _)⟩
  case round=>
    obtain ⟨i,rfl,hk,Hown,HB⟩:=hrel
    by_cases hlt:i<ds.length
    · obtain ⟨k,rfl⟩: ∃k,gk=k+1:=⟨gk - 1,by omega⟩
      obtain ⟨d,hd⟩:=at_some hlt
      obtain ⟨A',cap',hv,h2⟩:=HK.out.below HB.out
      obtain ⟨ad,rfl,hg,hc⟩:=h2 (by omega)
      obtain ⟨rfl, -,rfl⟩:=Value.slice.inj hv
      obtain ⟨c0,c1,c2⟩:=hc i d hd
      have n1:decide ((i:Int)<(ds.length:Int))=true:=by simpa using hlt
      have n2:(i:Int)<(ds.length:Int):=by omega
      have e3:wrap64 ((i:Int)+1)=(i:Int)+1:=IntWalk.wrap64_in _ (by omega)
      have htake:=Lib.hid (lessD_take (id:=id) hd)
      have hlen:(lessD (ds.take i) id).length≤i:=by
        unfold lessD
        refine Nat.le_trans (List.length_filter_le _ _) ?_
        rw [List.length_take];omega
      have hw0:=HB.out.size
      have E3:=Lib.hid e3
      obtain ⟨m,hm⟩: ∃m,(lessD (ds.take i) id).length=m:=⟨_,rfl⟩
      have hown:=Hown.out
      rw [hm] at hown hlen
      have HM:=Lib.hid hm;have Hown:=Lib.hid hown
      replace c2:wr.cell? ⟨(ad.add (i*2)).block,(ad.add (i*2)).off+1,none⟩=some (.string ⟨d.2.toArray⟩):=c2
      clear h2 hc hv hd hm hown
      by_cases he:d.1=id
      · have d1:(d.1 !=id)=false:=by simp [he]
        rw [if_pos he,List.append_nil] at htake
        clear he
        go_wp2_with fail
        refine handed_gen fun V hV=> ?_
        have hbV:Below wr.heap.size wr V:=by rw [hV];(repeat' first|with_reducible assumption|with_reducible exact Below.refl _ _|with_reducible refine Below.alloc ?_ ?_ _|with_reducible refine Below.setCell ?_ ?_ _|with_reducible refine below_drewN ?_ _|with_reducible refine Below.drew ?_|exact Nat.le_refl _|((try dsimp only);omega)|(simp only [siz_alloc,siz_set];omega))
        have HO:=Lib.hid (own_below Hown.out hbV)
        have HBV:=Lib.hid (below_step HB.out hbV)
        clear hV hbV
        go_roundg k
        case measure=>omega
        case rel=>exact ⟨i+1,by first|rfl|(rw [E3.out];rfl),by omega,Lib.hid (by rw [htake.out,HM.out];exact HO.out),HBV⟩
      · have d1:(d.1 !=id)=true:=by simpa using he
        rw [if_neg he] at htake
        clear he
        go_wp2_with (at_builtin;refine wpList_push _ (by rfl) _ _ 22 (by rfl) (w.heap.size) 34 (.agg #[.int .i64 0, .string ⟨#[]⟩]) 2 24 Tryz.underlying22 (by kernel_rfl) (by rfl) (by omega) _ _ _ (by rfl) (own_below Hown.out (bel)) _ (by rfl) (by first|rfl|(rw [siz_alloc];rfl)|(simp only [siz_alloc,siz_set];rfl)) (by simp [Value.oneCell']) (by unfold maxLen;omega) (by omega) (by simp only [siz_alloc,siz_set];omega) ?_;intro g_W c_W W5 hown_W hlow_W hlt_W)
        go_wp2_with fail
        have HB5:=Lib.hid (low_step HB.out (Nat.le_refl _) (Below.trans (bel) hlow_W))
        go_roundg k
        case measure=>omega
        case rel=>exact ⟨i+1,by first|rfl|(rw [E3.out];rfl),by omega,Lib.hid (by rw [htake.out,List.length_append,HM.out,docCells_append];exact hown_W),HB5⟩
    · have hi:i=ds.length:=by omega
      have n1:decide ((i:Int)<(ds.length:Int))=false:=by simpa using hlt
      have hown:=Hown.out
      rw [hi,List.take_length] at hown
      have HO:=Lib.hid hown
      clear hown Hown
      have hll:(lessD ds id).length≤50000:=Nat.le_trans (List.length_filter_le _ _) hl
      obtain ⟨A5,c5,hv5⟩: ∃A5 c5,u5= .slice A5 (lessD ds id).length c5:=by
        obtain ⟨-,A',cap',hv, -⟩:=Rx.of_own HO.out
        exact ⟨A',cap',hv⟩
      subst hv5
      go_wp2_with fail
      go_ret
      exact ⟨_,_,rfl,rd2_own HO.out,HB.out⟩
end
section
open Go.RowKit
section
variable {w0 W : World} {ap : Value} {b : Nat} {x : Ct} {L : List (Nat × Obj)}
end
structure Pick (w:World) (A:Option Addr) (cap:Nat) (ds:Docs) (i:Int) (j:Nat) (d:Int×List UInt8):Prop where
  right:Right ds
  tot:tot ds≤60
  len:ds.length≤10
  pos:1≤ds.length
  rows:(rowsM ds).length≤70
  sel:ds[j]? =some d
  d40:d.2.length≤40
  ad: ∃ad,A=some ad
  num:wrap64 (i.tmod (ds.length:Int)+(ds.length:Int))=i.tmod (ds.length:Int)+(ds.length:Int)∧(i.tmod (ds.length:Int)+(ds.length:Int)) % (ds.length:Int)=(j:Int)∧(0:Int)≤i.tmod (ds.length:Int)+(ds.length:Int)∧(j:Int)<(ds.length:Int)∧((ds.length:Int)==0)=false
theorem Pick.cells {w W : World} {ad : Addr} {cap : Nat} {ds : Docs} {i : Int} {j : Nat} {d : Int × List UInt8} (h : Pick w (some ad) cap ds i j d) (hk : Rd2 W (.slice (some ad) ds.length cap) ds) :
    W.cell? (ad.add (j*2))=some (.int .i64 d.1)∧W.cell? ⟨(ad.add (j*2)).block,(ad.add (j*2)).off+1,none⟩=some (.string ⟨d.2.toArray⟩):=by
  obtain ⟨A',c',hv,h2⟩:=hk
  obtain ⟨rfl, -,rfl⟩:=Value.slice.inj hv
  obtain ⟨ad',ha, -,hc⟩:=h2 h.pos
  obtain rfl:=Option.some.inj ha
  exact (hc j d h.sel).2
theorem Right.txt50 {ds:Docs} (hR:Right ds): ∀t,t∈txt ds→t.length≤50000:=fun t ht=>by
  obtain ⟨i,hi⟩:=List.getElem?_of_mem ht
  have:=(right_len hR.right).2 i
  rw [getD_at hi] at this;omega
theorem lessD_len (ds:Docs) (id:Int):(lessD ds id).length≤ds.length:=List.length_filter_le _ _
theorem Pick.less {w:World} {A:Option Addr} {cap:Nat} {ds:Docs} {i:Int} {j:Nat} {d:Int×List UInt8} (h:Pick w A cap ds i j d):lessD ds d.1=ds.eraseIdx j∧Right (lessD ds d.1)∧(lessD ds d.1).length≤50000∧ ∀t,t∈txt (lessD ds d.1)→t.length≤50000:=by
  have e:=lessD_era h.right h.sel
  have hR:Right (lessD ds d.1):=e▸h.right.era j
  exact ⟨e,hR,by have:=lessD_len ds d.1;have:=h.len;omega,hR.txt50⟩
end
section
open Go.RowKit
attribute [local go_sem ↓] Go.wp_at_zero Go.wp_at_succ
attribute [local go_sem] lt_s2 lt_s3 lt_s4 str_len
theorem cRoot_nil (w:World):Calls Tryz.prog 55 #[.pointer none] w fun e w'=>e= .returned (.int .i64 0)∧w=w':=by
  go_enter Tryz.func55,Tryz.ntmps55
  go_wp2_with fail
  go_ret
  exact ⟨rfl,rfl⟩
theorem cLeft_nil (w:World):Calls Tryz.prog 59 #[.pointer none] w fun e w'=>e= .returned (.int .i64 0)∧w=w':=by
  go_enter Tryz.func59,Tryz.ntmps59
  go_wp2_with fail
  go_ret
  exact ⟨rfl,rfl⟩
theorem cHeld_nil (w:World):Calls Tryz.prog 58 #[.pointer none] w fun e w'=>e= .returned (.slice none 0 0)∧w=w':=by
  go_enter Tryz.func58,Tryz.ntmps58
  go_wp2_with fail
  go_ret
  exact ⟨rfl,rfl⟩
theorem cStop_nil (w:World):Calls Tryz.prog 57 #[.pointer none] w fun e w'=>e= .returned (.tuple #[])∧w=w':=by
  go_enter Tryz.func57,Tryz.ntmps57
  go_wp2_with fail
  refine (cHeld_nil _).mono ?_
  rintro e0 w0 ⟨rfl,rfl⟩
  go_wp2_with fail
  go_loopw [7] (fun c wr=>c= .int .i64 0∧wr=w) (fun _ _=>0)
  case atStart=>exact ⟨rfl,rfl⟩
  case round=>
    obtain ⟨rfl,rfl⟩:=hrel
    go_wp2_with fail
    go_end0
    exact ⟨rfl,rfl⟩
theorem cStep_nil (w:World):Calls Tryz.prog 54 #[.pointer none] w fun e w'=>e= .returned (.tuple #[.bool true, .int .i64 10])∧w=w':=by
  go_enter Tryz.func54,Tryz.ntmps54
  go_wp2_with fail
  refine wp_scope_ghost 0 (fun n a' wr=>(False)∧ ∃u1 u2 u3 u4 u5 u6 u7 u8 u9 u10 u11 u12 u13 u14 u15 u16 u17 u18 u19 u20 u21 u22 u23 u24 u25 u26 u27 u28 u29 u30 u31 u32 u33 u34 u35 u36 u37 u38 u39 u40 u41 u42 u43 u44 u45 u46 u47 u48 u49 u50 u51 u52 u53 u54 u55 u56 u57 u58 u59 u60 u61 u62 u63 u64 u65 u66 u67 u68 u69 u70 u71 u72 u73 u74 u75 u76 u77 u78:Value,a'={tmps:= #[(.pointer none:Value),u1,u2,u3,u4,u5,u6,u7,u8,u9,u10,u11,u12,u13,u14,u15,u16,u17,u18,u19,u20,u21,u22,u23,u24,u25,u26,u27,u28,u29,u30,u31,u32,u33,u34,u35,u36,u37,u38,u39,u40,u41,u42,u43,u44,u45,u46,u47,u48,u49,u50,u51,u52,u53,u54,u55,u56,u57,u58,u59,u60,u61,u62,u63,u64,u65,u66,u67,u68,u69,u70,u71,u72,u73,u74,u75,u76,u77,u78],defers:=[]}) (by rfl) ?first ?pass
  case first=>
    intro hrest
    clear hrest
    go_wp2_with fail
    simp only [Exit.jump]
    go_ret2
    exact ⟨rfl,rfl⟩
  case pass=>
    rintro n a' wr ⟨h, -⟩
    exact h.elim
end
section
open Go.RowKit
attribute [local go_sem ↓] Go.wp_at_zero Go.wp_at_succ
attribute [local go_sem] str_len
variable {ap : Value} {s : Ar} {O : Nat → Prop}
theorem bRows_stop {rate:Int} {l:List (Int×Int×Int)} {i:Int} {b b':Bst} (h:bRows rate l i b=some b') (ho:b.ok=false):b=b':=by
  cases l with
  | nil=>cases h;rfl
  | cons x l=>unfold bRows at h;rw [ho,if_neg (by decide)] at h;cases h;rfl
theorem buildF_calls (rate : Int) (hr1 : 1 ≤ rate) (hr2 : rate ≤ 1000) (ds : List (Int × List UInt8)) (ad : Addr) (cap : Nat) (hne : ds ≠ []) (hrt : refRight (ds.map (·.2)) = true) (w : World) (hD : Rd2 w (.slice (some ad) ds.length cap) ds) (hO : ¬ O ad.block) (hA : AP w ap s O)
    (B1 B2:Bst) (h1:bRows rate (rowsM ds) 0 ⟨s,true,Parts.zero,0⟩=some B1) (h2:bTable (docsM ds) B1=some B2) (root:Int) (okr:Bool) (s':Ar) (h3:bEnd B2=some (root,okr,s')):
    Calls Tryz.prog 17 #[ap, .int .i64 rate, .slice (some ad) ds.length cap] w fun e w'=>e= .returned (.tuple #[.int .i64 root, .bool okr])∧Did noX ap s' O w w':=by
  have hlen:0<ds.length:=List.length_pos_iff.2 hne
  obtain ⟨hn10,h40⟩:=right_len hrt
  rw [List.length_map] at hn10
  have d0:((ds.length:Int)==0)=false:=by rw [beq_eq_false_iff_ne];omega
  have HD:=Lib.hid hD;have H1:=Lib.hid h1;have H2:=Lib.hid h2;have H3:=Lib.hid h3;have H40:=Lib.hid h40;have HO:=Lib.hid hO
  clear hD h1 h2 h3 h40 hne
  obtain ⟨ts,hts⟩: ∃ts,ts=ds.map (·.2):=⟨_,rfl⟩
  have htl:ts.length=ds.length:=by rw [hts,List.length_map]
  rw [←hts] at hrt
  have H40':Hid (∀t,t∈ts→t.length≤50000):=Lib.hid (fun t ht=>by
    obtain ⟨i,hi,rfl⟩:=List.getElem_of_mem ht
    have:=(right_len hrt).2 i
    rw [getD_at (List.getElem?_eq_getElem hi)] at this
    omega)
  have Hts:=Lib.hid hts;clear hts
  obtain ⟨q,rfl⟩:=hA.ptr
  go_enter Tryz.func17,Tryz.ntmps17
  go_wp2_with fail
  refine cg fun V0 hV_V0=> ?_
  have hF:=Fr.refl (noX) O w
  refine nnf0 hV_V0 hA hF ?_;clear hA hF;intro hn_V0 z_V0 hA hF
  obtain ⟨ka,c_ka,o_ka,l_kaV0⟩:=nN hn_V0 hV_V0 (w.heap.size)
  clear hV_V0 hn_V0
  have hAV0:=hA
  refine (texts_calls _ ds (by omega) _ (HD.out.fr hF HO.out (fun h=>h))).mono ?_
  rintro e_W0 W0 ⟨v0,rfl,hown0,hb_W0⟩
  refine bef1 hb_W0 hA hF ka ?_;clear hb_W0 hA hF ka c_ka;intro z_W0 hA hF ka c_ka
  have hge0: ∀g,v0.ownBlock=some g→V0.heap.size≤g:=fun g hg=>(hown0.lt g hg).1
  obtain ⟨hl0,A0,c0,rfl,hx0⟩:=Rk.of_own hown0
  obtain ⟨g0,cs0,T0,rfl,kx,hcs0⟩:=hx0 (by omega)
  have o_kx: ¬O g0:=fun h=>by have:=hAV0.lt h;have:=hge0 g0 rfl;omega
  have HX0:Hid (∀V:World,V.heap[g0]? =some (.cells cs0 T0 (0,0))→Rk V 1 (.slice (some ⟨g0,0,none⟩) ds.length c0) ts.length (ts.map strOf)):=Lib.hid (fun V hV=>by
    rw [Hts.out,List.length_map]
    exact ⟨hl0,_,_,rfl,fun _=>⟨g0,cs0,T0,rfl,hV,hcs0⟩⟩)
  clear hAV0 hown0 hge0 hl0 hx0 hcs0
  have c_kx:=f3 kx;have l_kxW0:=lt_of kx
  go_wp2_with fail
  refine cg fun V1 hV_V1=> ?_
  refine nef2 hV_V1 hA hF ka kx ?_;clear hA hF ka kx c_ka c_kx;intro z_V1 hA hF ka c_ka kx c_kx
  clear hV_V1
  have hAV1:=hA
  refine (sorted_calls _ ts (by omega) _ (HX0.out _ kx)).mono ?_
  rintro e_W1 W1 ⟨v1,rfl,hown1,hb_W1⟩
  refine bef2 hb_W1 hA hF ka kx ?_;clear hb_W1 hA hF ka kx c_ka c_kx;intro z_W1 hA hF ka c_ka kx c_kx
  have hge1: ∀g,v1.ownBlock=some g→V1.heap.size≤g:=fun g hg=>(hown1.lt g hg).1
  have hRpos:0<(refSorted ts).length:=by
    unfold refSorted;rw [if_pos hrt,refFold_length]
    obtain ⟨n,hn⟩: ∃n,ts.length=n+1:=⟨ts.length - 1,by omega⟩
    rw [hn,←upto_next,upto_snoc];simp
  obtain ⟨hl1,A1,c1,rfl,hx1⟩:=Rk.of_own hown1
  obtain ⟨g1,cs1,T1,rfl,kr,hcs1⟩:=hx1 hRpos
  have o_kr: ¬O g1:=fun h=>by have:=hAV1.lt h;have:=hge1 g1 rfl;omega
  have hrows:Hid (∀(i:Nat) (r:Nat×Nat),(refSorted ts)[i]? =some r→cs1[i*2]? =some (Value.int .i64 (r.1:Int))∧cs1[i*2+1]? =some (Value.int .i64 (r.2:Int))):=Lib.hid (fun (i:Nat) (r:Nat×Nat) hr=>by
    have hi:=(List.getElem?_eq_some_iff.1 hr).1
    exact ⟨(hcs1 _ (by omega)).trans (rowCells_at hr).1,(hcs1 _ (by omega)).trans (rowCells_at hr).2⟩)
  clear hAV1 hown1 hge1 hl1 hx1 hcs1
  have c_kr:=f3 kr;have l_krW1:=lt_of kr
  go_wp2_with fail
  refine cg fun V2 hV_V2=> ?_
  refine nef3 hV_V2 hA hF ka kx kr ?_;clear hA hF ka kx kr c_ka c_kx c_kr;intro z_V2 hA hF ka c_ka kx c_kx kr c_kr
  clear hV_V2
  have hAV2:=hA
  refine (symbols_calls _ ts (by omega) H40'.out _ (HX0.out _ kx)).mono ?_
  rintro e_W2 W2 ⟨v2,rfl,hown2,hb_W2⟩
  refine bef3 hb_W2 hA hF ka kx kr ?_;clear hb_W2 hA hF ka kx kr c_ka c_kx c_kr;intro z_W2 hA hF ka c_ka kx c_kx kr c_kr
  have hge2: ∀g,v2.ownBlock=some g→V2.heap.size≤g:=fun g hg=>(hown2.lt g hg).1
  obtain ⟨hl2,A2,c2,rfl,hx2⟩:=Rk.of_own hown2
  obtain ⟨g2,cs2,T2,rfl,ks,hcs2⟩:=hx2 hRpos
  have o_ks: ¬O g2:=fun h=>by have:=hAV2.lt h;have:=hge2 g2 rfl;omega
  have hsyms:Hid (∀(i:Nat) (r:Nat×Nat),(refSorted ts)[i]? =some r→cs2[i]? =some (Value.int .i64 (symOf ts r))):=Lib.hid (fun (i:Nat) (r:Nat×Nat) hr=>by
    have hi:=(List.getElem?_eq_some_iff.1 hr).1
    refine (hcs2 _ (by omega)).trans ?_
    unfold intCells;rw [List.getElem?_map,List.getElem?_map,hr];rfl)
  clear hAV2 hown2 hge2 hl2 hx2 hcs2
  have c_ks:=f3 ks;have l_ksW2:=lt_of ks
  have hl2:=lt_of ks
  have hl1:=lt_of kr
  go_wp2_with fail
  refine wg fun V3 hV_V3=> ?_
  refine nnf3 hV_V3 hA hF ka kr ks ?_;clear hA hF ka kr ks c_ka c_kx c_kr c_ks kx;intro hn_V3 z_V3 hA hF ka c_ka kr c_kr ks c_ks
  obtain ⟨kp,c_kp,o_kp,l_kpV3⟩:=nN hn_V3 hV_V3 (W2.heap.size)
  obtain ⟨kt,c_kt,o_kt,l_ktV3⟩:=nN hn_V3 hV_V3 (W2.heap.size+1)
  clear hV_V3 hn_V3
  obtain ⟨R,hR⟩: ∃R,R=refSorted ts:=⟨_,rfl⟩
  rw [←hR] at hrows hsyms hRpos
  have hsm:R.length≤500:=by rw [hR];exact sorted_small ts
  have hlt1: ∀(i:Nat) (r:Nat×Nat),R[i]? =some r→ ∃d,ds[r.1]? =some d∧(rowsM ds)[i]? =some (d.1,(r.2:Int),symOf ts r):=by
    intro i r hr
    obtain ⟨t,ht, -⟩:=sorted_valid (hR▸List.mem_of_getElem? hr)
    have h1:=(List.getElem?_eq_some_iff.1 ht).1
    obtain ⟨d,hd⟩:=at_some (show r.1<ds.length by omega)
    refine ⟨d,hd,?_⟩
    unfold rowsM
    rw [←Hts.out,←hR,List.getElem?_map,hr]
    simp [List.getD,hd]
  have hLlen:(rowsM ds).length=R.length:=by unfold rowsM;rw [←Hts.out,←hR,List.length_map]
  have Hlt1:=Lib.hid hlt1;have HR:=Lib.hid hR
  simp only [←hR]
  clear hlt1 hR
  have hneq:g1≠W2.heap.size∧g1≠W2.heap.size+1∧g2≠W2.heap.size∧g2≠W2.heap.size+1∧w.heap.size≠W2.heap.size∧w.heap.size≠W2.heap.size+1∧w.heap.size<W2.heap.size:=by
    have:=lt_of ka
    omega
  obtain ⟨ne1,ne2,ne3,ne4,ne5,ne6,hww⟩:=hneq
  have hY: ∀x,twoX W2.heap.size (W2.heap.size+1) x→w.heap.size≤x:=by
    intro x hx
    rcases hx with rfl|rfl<;>omega
  have hdoc:Hid (Rd2 V3 (.slice (some ad) ds.length cap) ds):=Lib.hid (HD.out.fr hF HO.out (fun h=>h))
  have HF3:=Lib.hid hF
  go_loopg [14,40] R.length (fun k p1 p2 wr=> ∃(i:Nat) (st:Bst) (O':Nat→Prop),p1= .int .i64 st.n∧p2= .int .i64 (i:Int)∧i+k=R.length∧AP wr (.pointer q) st.s O'∧Hid (Fr noX O O' w wr)
    ∧wr.heap[W2.heap.size]? =some (.cells #[.int .i64 st.p.wave, .int .i64 st.p.marks, .int .i64 st.p.spots, .int .i64 st.p.table] 63 (0,0))∧wr.heap[W2.heap.size+1]? =some (.cells #[.bool st.ok] 4 (0,0))∧wr.heap[w.heap.size]? =some (.cells #[.pointer q] 25 (0,0))
    ∧wr.heap[g1]? =some (.cells cs1 T1 (0,0))∧wr.heap[g2]? =some (.cells cs2 T2 (0,0))∧ ¬O' (W2.heap.size)∧ ¬O' (W2.heap.size+1)∧ ¬O' w.heap.size∧ ¬O' g1∧ ¬O' g2∧ ¬O' ad.block∧Hid (Rd2 wr (.slice (some ad) ds.length cap) ds)∧Hid (bRows rate ((rowsM ds).drop i) i st=some B1))
  case atStart=>exact ⟨0,_,O,rfl,rfl,by omega,hA,HF3,kp,kt,ka,kr,ks,o_kp,o_kt,o_ka,o_kr,o_ks,HO.out,hdoc,H1⟩
  case round=>
    clear ka kr ks kp kt c_ka c_kr c_ks c_kp c_kt hA hF hdoc HF3 o_kp o_kt o_ka o_kr o_ks
    obtain ⟨i,st,O1,rfl,rfl,hk,hA,HF,kp,kt,ka,kr,ks,o_kp,o_kt,o_ka,o_kr,o_ks,oD,hdoc,Hb⟩:=hrel
    by_cases hgo:i<R.length∧st.ok=true
    ·
      obtain ⟨hlt,hok⟩:=hgo
      obtain ⟨k,rfl⟩: ∃k,gk=k+1:=⟨gk - 1,by omega⟩
      obtain ⟨r,hr⟩:=at_some hlt
      obtain ⟨d,hd,hx⟩:=Hlt1.out i r hr
      have hb:=Hb.out
      rw [drop_at hx] at hb
      unfold bRows at hb
      rw [hok,if_pos rfl] at hb
      obtain ⟨st2,hst2,hb2⟩:=Option.bind_eq_some_iff.1 hb
      unfold bStep at hst2
      obtain ⟨r1,hr1',hst2⟩:=Option.bind_eq_some_iff.1 hst2
      dsimp only at hr1' hst2
      obtain ⟨r2,hr2',hst2⟩:=Option.bind_eq_some_iff.1 hst2
      obtain ⟨t1,ht1⟩: ∃t,nextA st.ok st.p.wave r1=t:=⟨_,rfl⟩
      rw [ht1] at hr2' hst2
      obtain ⟨t2,ht2⟩: ∃t,nextA t1.2.1 st.p.marks r2=t:=⟨_,rfl⟩
      rw [ht2] at hst2
      have Hr1:=Lib.hid hr1';have Hr2:=Lib.hid hr2';have Hst2:=Lib.hid hst2;have Hb2:=Lib.hid hb2;have Ht1:=Lib.hid ht1;have Ht2:=Lib.hid ht2
      obtain ⟨rc1,rc2⟩:=hrows.out i r hr
      have rc3:=hsyms.out i r hr
      have n1:decide ((i:Int)<(R.length:Int))=true:=by simpa using hlt
      have n2:(i:Int)<(R.length:Int):=by omega
      have E3:=Lib.hid (step_wrap i 500 (by omega) (by omega))
      have hd1:=(List.getElem?_eq_some_iff.1 hd).1
      have n3:(r.1:Int)<(ds.length:Int):=by omega
      have Hd:=Lib.hid hd;have Hlt:=Lib.hid hlt
      clear hb hr1' hr2' hst2 hb2 ht1 ht2 hr hx hd hlt Hb hd1
      have hF:=Fr.refl ((twoX W2.heap.size (W2.heap.size+1))) O1 wr
      have c_ka:=f3 ka;have l_kawr:=lt_of ka
      have c_kr:=f3 kr;have l_krwr:=lt_of kr
      have c_ks:=f3 ks;have l_kswr:=lt_of ks
      have c_kp:=f3 kp;have l_kpwr:=lt_of kp
      have c_kt:=f3 kt;have l_ktwr:=lt_of kt
      go_wp2_with fail
      refine wg fun V4 hV_V4=> ?_
      refine nef5 hV_V4 hA hF ka kr ks kp kt ?_;clear hA hF ka kr ks kp kt c_ka c_kr c_ks c_kp c_kt;intro z_V4 hA hF ka c_ka kr c_kr ks c_ks kp c_kp kt c_kt
      clear hV_V4
      refine dr (fun v=>Sm v V4 (w.heap.size)∧Sm v V4 (g1)∧Sm v V4 (g2)∧Sm v V4 (W2.heap.size)∧Sm v V4 (W2.heap.size+1)∧(V4.heap.size≤v.heap.size)∧True) ⟨fun _=>rfl,fun _=>rfl,fun _=>rfl,fun _=>rfl,fun _=>rfl,Nat.le_refl _,trivial⟩ fun V4d hV_V4d hHeld=> ?_
      have v_ka:=c_ka.1;have v_kr:=c_kr.1;have v_ks:=c_ks.1;have v_kp:=c_kp.1;have v_kt:=c_kt.1
      refine nef5 hV_V4d hA hF ka kr ks kp kt ?_;clear hA hF ka kr ks kp kt c_ka c_kr c_ks c_kp c_kt;intro z_V4d hA hF ka c_ka kr c_kr ks c_ks kp c_kp kt c_kt
      clear hV_V4d
      refine ta 0 hHeld ?_
      refine ta 1 hHeld ?_
      refine ta 2 hHeld ?_
      refine ta 3 hHeld ?_
      refine ta 4 hHeld ?_
      refine ta 5 hHeld ?_
      refine ta 6 hHeld ?_
      refine ta 7 hHeld ?_
      refine rd 8 rfl fun K hK=> ?_
      go_simp
      try simp only [IntWalk.i64_left]
      refine wC (wInsert_calls st.s O1 _ _ _ r1 Hr1.out _ hA) fun W5 O2 hA_W5 hf_W5=> ?_
      refine wif5 hf_W5 hF ka o_ka kr o_kr ks o_ks kp o_kp kt o_kt ?_;clear hA hF ka o_ka kr o_kr ks o_ks kp o_kp kt o_kt c_ka c_kr c_ks c_kp c_kt hf_W5;intro z_W5 hF ka c_ka o_ka kr c_kr o_kr ks c_ks o_ks kp c_kp o_kp kt c_kt o_kt;have hA:=hA_W5;clear hA_W5
      refine ho hK ⟨vv c_ka v_ka,vv c_kr v_kr,vv c_ks v_ks,vv c_kp v_kp,vv c_kt v_kt,by omega,trivial⟩ fun hHeld=> ?_
      clear hK K
      refine ta 9 hHeld ?_
      refine ta 10 hHeld ?_
      refine ta 11 hHeld ?_
      refine rd 12 rfl fun K hK=> ?_
      go_simp
      refine ho hK hHeld fun hHeld=> ?_
      clear hK K
      refine rd 13 rfl fun K hK=> ?_
      go_simp
      refine ho hK hHeld fun hHeld=> ?_
      clear hK K
      refine wd ?_
      go_wp2_with fail
      refine cg fun V5 hV_V5=> ?_
      refine nef5 hV_V5 hA hF ka kr ks kp kt ?_;clear hA hF ka kr ks kp kt c_ka c_kr c_ks c_kp c_kt;intro z_V5 hA hF ka c_ka kr c_kr ks c_ks kp c_kp kt c_kt
      clear hV_V5
      refine tC (next_t (W2.heap.size+1) w.heap.size st.ok st.p.wave r1 t1 Ht1.out _ hA kt ka o_kt o_ka ne6) fun W6 O3 hT hf=> ?_
      refine tx4 hT.hA hT.blk hT.no hf hF ka o_ka kr o_kr ks o_ks kp o_kp ?_;clear hA hF kt c_kt o_kt ka o_ka kr o_kr ks o_ks kp o_kp c_ka c_kr c_ks c_kp hT hf;intro z_W6 hA hF kt c_kt o_kt ka c_ka o_ka kr c_kr o_kr ks c_ks o_ks kp c_kp o_kp
      go_wp2_with fail
      refine cg fun V6 hV_V6=> ?_
      refine nef5 hV_V6 hA hF ka kr ks kp kt ?_;clear hA hF ka kr ks kp kt c_ka c_kr c_ks c_kp c_kt;intro z_V6 hA hF ka c_ka kr c_kr ks c_ks kp c_kp kt c_kt
      clear hV_V6
      have hadlt:ad.block<w.heap.size:=by
        obtain ⟨A,c,hv,hc⟩:=HD.out
        obtain ⟨rfl, -,rfl⟩:=Value.slice.inj hv
        obtain ⟨ad',ha,hlt, -⟩:=hc hlen
        obtain rfl:=Option.some.inj ha
        exact hlt
      have hX: ¬twoX W2.heap.size (W2.heap.size+1) ad.block:=by unfold twoX;omega
      by_cases hm:(r.2:Int) % rate=0
      ·
        have m1:((r.2:Int) % rate==0)=true:=by rw [hm];rfl
        have hst:=Hst2.out
        rw [if_pos hm] at hst
        obtain ⟨r3,hr3',hst⟩:=Option.bind_eq_some_iff.1 hst
        obtain ⟨u,hu,hst⟩:=Option.map_eq_some_iff.1 hst
        obtain ⟨t3,ht3⟩: ∃t,nextA t2.2.1 st.p.spots r3=t:=⟨_,rfl⟩
        rw [ht3] at hu hst
        have Hr3:=Lib.hid hr3';have Hu:=Lib.hid hu;have Hst:=Lib.hid hst;have Ht3:=Lib.hid ht3;have Hm:=Lib.hid hm
        have e2:decide ((r.2:Int) % rate=0)=((r.2:Int) % rate==0):=rfl
        have Hr2':Hid (bInsert t1.2.2 st.p.marks (i:Int) ((r.2:Int) % rate==0)=some r2):=Lib.hid Hr2.out
        rw [m1] at Hr2'⊢
        clear hst hr3' hu ht3 hm e2
        refine wC (bInsert_calls (s:=t1.2.2) _ _ _ r2 Hr2'.out _ hA) fun W7 O4 hA_W7 hf_W7=> ?_
        refine wif5 hf_W7 hF ka o_ka kr o_kr ks o_ks kp o_kp kt o_kt ?_;clear hA hF ka o_ka kr o_kr ks o_ks kp o_kp kt o_kt c_ka c_kr c_ks c_kp c_kt hf_W7;intro z_W7 hF ka c_ka o_ka kr c_kr o_kr ks c_ks o_ks kp c_kp o_kp kt c_kt o_kt;have hA:=hA_W7;clear hA_W7
        go_wp2_with fail
        refine cg fun V7 hV_V7=> ?_
        refine nef5 hV_V7 hA hF ka kr ks kp kt ?_;clear hA hF ka kr ks kp kt c_ka c_kr c_ks c_kp c_kt;intro z_V7 hA hF ka c_ka kr c_kr ks c_ks kp c_kp kt c_kt
        clear hV_V7
        refine tC (next_t (W2.heap.size+1) w.heap.size t1.2.1 st.p.marks r2 t2 Ht2.out _ hA kt ka o_kt o_ka ne6) fun W8 O5 hT hf=> ?_
        refine tx4 hT.hA hT.blk hT.no hf hF ka o_ka kr o_kr ks o_ks kp o_kp ?_;clear hA hF kt c_kt o_kt ka o_ka kr o_kr ks o_ks kp o_kp c_ka c_kr c_ks c_kp hT hf;intro z_W8 hA hF kt c_kt o_kt ka c_ka o_ka kr c_kr o_kr ks c_ks o_ks kp c_kp o_kp
        go_wp2_with fail
        refine wg fun V8 hV_V8=> ?_
        refine nef5 hV_V8 hA hF ka kr ks kp kt ?_;clear hA hF ka kr ks kp kt c_ka c_kr c_ks c_kp c_kt;intro z_V8 hA hF ka c_ka kr c_kr ks c_ks kp c_kp kt c_kt
        clear hV_V8
        obtain ⟨c_d_lt,c_d, -⟩:(ad.add (r.1*2)).block<V8.heap.size∧V8.cell? (ad.add (r.1*2))=some (.int .i64 d.1)∧True:=by
          obtain ⟨A,c,hv,hc⟩:=hdoc.out.fr hF oD hX
          obtain ⟨rfl, -,rfl⟩:=Value.slice.inj hv
          obtain ⟨ad',ha,hlt,hc⟩:=hc hlen
          obtain rfl:=Option.some.inj ha
          obtain ⟨q1,q2, -⟩:=hc r.1 d Hd.out
          exact ⟨q1,q2,trivial⟩
        have c_d_no: ¬O5 (ad.add (r.1*2)).block:=by
          rw [block_of_add]
          exact hF.not_own (by have:=hF.size;omega) oD
        refine dr (fun v=>(v.cell? (ad.add (r.1*2))=some (.int .i64 d.1))∧Sm v V8 (w.heap.size)∧Sm v V8 (g1)∧Sm v V8 (g2)∧Sm v V8 (W2.heap.size)∧Sm v V8 (W2.heap.size+1)∧(V8.heap.size≤v.heap.size)∧True) ⟨c_d,fun _=>rfl,fun _=>rfl,fun _=>rfl,fun _=>rfl,fun _=>rfl,Nat.le_refl _,trivial⟩ fun V8d hV_V8d hHeld=> ?_
        have v_ka:=c_ka.1;have v_kr:=c_kr.1;have v_ks:=c_ks.1;have v_kp:=c_kp.1;have v_kt:=c_kt.1
        replace c_d:V8d.cell? (ad.add (r.1*2))=some (.int .i64 d.1):=by rw [hV_V8d];exact c_d
        replace c_d_lt:((ad.add (r.1*2))).block<V8d.heap.size:=by rw [hV_V8d];exact c_d_lt
        refine nef5 hV_V8d hA hF ka kr ks kp kt ?_;clear hA hF ka kr ks kp kt c_ka c_kr c_ks c_kp c_kt;intro z_V8d hA hF ka c_ka kr c_kr ks c_ks kp c_kp kt c_kt
        clear hV_V8d
        refine ta 0 hHeld ?_
        refine ta 1 hHeld ?_
        refine ta 2 hHeld ?_
        refine ta 3 hHeld ?_
        refine ta 4 hHeld ?_
        refine ta 5 hHeld ?_
        refine ta 6 hHeld ?_
        refine ta 7 hHeld ?_
        refine ta 8 hHeld ?_
        refine ta 9 hHeld ?_
        refine ta 10 hHeld ?_
        refine ta 11 hHeld ?_
        refine ta 12 hHeld ?_
        refine ta 13 hHeld ?_
        refine ta 14 hHeld ?_
        refine ta 15 hHeld ?_
        refine ta 16 hHeld ?_
        refine ta 17 hHeld ?_
        refine ta 18 hHeld ?_
        refine rd 19 rfl fun K hK=> ?_
        go_simp
        try simp only [IntWalk.i64_left]
        refine wC (lInsert_calls (s:=t2.2.2) _ _ (d.1,(r.2:Int)) r3 Hr3.out _ hA) fun W9 O6 hA_W9 hf_W9=> ?_
        have q_ka:=hf_W9.keep ka o_ka (fun h=>h)
        have q_kr:=hf_W9.keep kr o_kr (fun h=>h)
        have q_ks:=hf_W9.keep ks o_ks (fun h=>h)
        have q_kp:=hf_W9.keep kp o_kp (fun h=>h)
        have q_kt:=hf_W9.keep kt o_kt (fun h=>h)
        replace o_ka:=hf_W9.not_own (lt_of ka) o_ka
        clear ka c_ka;have ka:=q_ka;clear q_ka
        have c_ka:=f3 ka;have l_kaW9:=lt_of ka
        replace o_kr:=hf_W9.not_own (lt_of kr) o_kr
        clear kr c_kr;have kr:=q_kr;clear q_kr
        have c_kr:=f3 kr;have l_krW9:=lt_of kr
        replace o_ks:=hf_W9.not_own (lt_of ks) o_ks
        clear ks c_ks;have ks:=q_ks;clear q_ks
        have c_ks:=f3 ks;have l_ksW9:=lt_of ks
        replace o_kp:=hf_W9.not_own (lt_of kp) o_kp
        clear kp c_kp;have kp:=q_kp;clear q_kp
        have c_kp:=f3 kp;have l_kpW9:=lt_of kp
        replace o_kt:=hf_W9.not_own (lt_of kt) o_kt
        clear kt c_kt;have kt:=q_kt;clear q_kt
        have c_kt:=f3 kt;have l_ktW9:=lt_of kt
        replace c_d:=(cell_same (hf_W9.block _ c_d_lt c_d_no (fun h=>h))).trans c_d
        clear c_d_lt c_d_no
        replace hF:=hF.trans hf_W9.widen
        have z_W9:=hf_W9.size
        clear hA hf_W9;have hA:=hA_W9;clear hA_W9
        refine ho hK ⟨c_d,vv c_ka v_ka,vv c_kr v_kr,vv c_ks v_ks,vv c_kp v_kp,vv c_kt v_kt,by omega,trivial⟩ fun hHeld=> ?_
        clear hK K
        refine ta 20 hHeld ?_
        refine ta 21 hHeld ?_
        refine ta 22 hHeld ?_
        refine rd 23 rfl fun K hK=> ?_
        go_simp
        refine ho hK hHeld fun hHeld=> ?_
        clear hK K
        refine rd 24 rfl fun K hK=> ?_
        go_simp
        refine ho hK hHeld fun hHeld=> ?_
        clear hK K
        refine wd ?_
        go_wp2_with fail
        refine cg fun V9 hV_V9=> ?_
        refine nef5 hV_V9 hA hF ka kr ks kp kt ?_;clear hA hF ka kr ks kp kt c_ka c_kr c_ks c_kp c_kt;intro z_V9 hA hF ka c_ka kr c_kr ks c_ks kp c_kp kt c_kt
        clear hV_V9
        refine tC (next_t (W2.heap.size+1) w.heap.size t2.2.1 st.p.spots r3 t3 Ht3.out _ hA kt ka o_kt o_ka ne6) fun W10 O7 hT hf=> ?_
        refine tx4 hT.hA hT.blk hT.no hf hF ka o_ka kr o_kr ks o_ks kp o_kp ?_;clear hA hF kt c_kt o_kt ka o_ka kr o_kr ks o_ks kp o_kp c_ka c_kr c_ks c_kp hT hf;intro z_W10 hA hF kt c_kt o_kt ka c_ka o_ka kr c_kr o_kr ks c_ks o_ks kp c_kp o_kp
        go_wp2_with fail
        refine cg fun V10 hV_V10=> ?_
        refine nef5 hV_V10 hA hF ka kr ks kp kt ?_;clear hA hF ka kr ks kp kt c_ka c_kr c_ks c_kp c_kt;intro z_V10 hA hF ka c_ka kr c_kr ks c_ks kp c_kp kt c_kt
        clear hV_V10
        refine wC (work_calls (s:=t3.2.2) 1073741824 u Hu.out _ hA) fun W11 O8 hA_W11 hf_W11=> ?_
        refine wif5 hf_W11 hF ka o_ka kr o_kr ks o_ks kp o_kp kt o_kt ?_;clear hA hF ka o_ka kr o_kr ks o_ks kp o_kp kt o_kt c_ka c_kr c_ks c_kp c_kt hf_W11;intro z_W11 hF ka c_ka o_ka kr c_kr o_kr ks c_ks o_ks kp c_kp o_kp kt c_kt o_kt;have hA:=hA_W11;clear hA_W11
        obtain rfl:=Hst.out
        have HF2:=Lib.hid (HF.out.trans_own hF hY)
        have hdoc2:=Lib.hid (hdoc.out.fr hF oD hX)
        have oD2:=hF.not_own (by have:=HF.out.size;omega) oD
        have HA2:=Lib.hid hA
        clear hF hdoc oD hA
        go_wp2_with fail
        go_roundg k
        case measure=>omega
        case rel=>exact ⟨i+1,_,O8,rfl,by first|rfl|(rw [E3.out];rfl),by omega,HA2.out,HF2,kp,kt,ka,kr,ks,o_kp,o_kt,o_ka,o_kr,o_ks,oD2,hdoc2,Lib.hid (by exact Hb2.out)⟩
      ·
        have m1:((r.2:Int) % rate==0)=false:=by rw [beq_eq_false_iff_ne];exact hm
        have hst:=Hst2.out
        rw [if_neg hm] at hst
        obtain ⟨u,hu,hst⟩:=Option.map_eq_some_iff.1 hst
        have Hu:=Lib.hid hu;have Hst:=Lib.hid hst;have Hm:=Lib.hid hm
        have Hr2':Hid (bInsert t1.2.2 st.p.marks (i:Int) ((r.2:Int) % rate==0)=some r2):=Lib.hid Hr2.out
        rw [m1] at Hr2'⊢
        clear hst hu hm
        refine wC (bInsert_calls (s:=t1.2.2) _ _ _ r2 Hr2'.out _ hA) fun W7 O4 hA_W7 hf_W7=> ?_
        refine wif5 hf_W7 hF ka o_ka kr o_kr ks o_ks kp o_kp kt o_kt ?_;clear hA hF ka o_ka kr o_kr ks o_ks kp o_kp kt o_kt c_ka c_kr c_ks c_kp c_kt hf_W7;intro z_W7 hF ka c_ka o_ka kr c_kr o_kr ks c_ks o_ks kp c_kp o_kp kt c_kt o_kt;have hA:=hA_W7;clear hA_W7
        go_wp2_with fail
        refine cg fun V7 hV_V7=> ?_
        refine nef5 hV_V7 hA hF ka kr ks kp kt ?_;clear hA hF ka kr ks kp kt c_ka c_kr c_ks c_kp c_kt;intro z_V7 hA hF ka c_ka kr c_kr ks c_ks kp c_kp kt c_kt
        clear hV_V7
        refine tC (next_t (W2.heap.size+1) w.heap.size t1.2.1 st.p.marks r2 t2 Ht2.out _ hA kt ka o_kt o_ka ne6) fun W8 O5 hT hf=> ?_
        refine tx4 hT.hA hT.blk hT.no hf hF ka o_ka kr o_kr ks o_ks kp o_kp ?_;clear hA hF kt c_kt o_kt ka o_ka kr o_kr ks o_ks kp o_kp c_ka c_kr c_ks c_kp hT hf;intro z_W8 hA hF kt c_kt o_kt ka c_ka o_ka kr c_kr o_kr ks c_ks o_ks kp c_kp o_kp
        go_wp2_with fail
        refine cg fun V8 hV_V8=> ?_
        refine nef5 hV_V8 hA hF ka kr ks kp kt ?_;clear hA hF ka kr ks kp kt c_ka c_kr c_ks c_kp c_kt;intro z_V8 hA hF ka c_ka kr c_kr ks c_ks kp c_kp kt c_kt
        clear hV_V8
        refine wC (work_calls (s:=t2.2.2) 1073741824 u Hu.out _ hA) fun W11 O8 hA_W11 hf_W11=> ?_
        refine wif5 hf_W11 hF ka o_ka kr o_kr ks o_ks kp o_kp kt o_kt ?_;clear hA hF ka o_ka kr o_kr ks o_ks kp o_kp kt o_kt c_ka c_kr c_ks c_kp c_kt hf_W11;intro z_W11 hF ka c_ka o_ka kr c_kr o_kr ks c_ks o_ks kp c_kp o_kp kt c_kt o_kt;have hA:=hA_W11;clear hA_W11
        obtain rfl:=Hst.out
        have HF2:=Lib.hid (HF.out.trans_own hF hY)
        have hdoc2:=Lib.hid (hdoc.out.fr hF oD hX)
        have oD2:=hF.not_own (by have:=HF.out.size;omega) oD
        have HA2:=Lib.hid hA
        clear hF hdoc oD hA
        go_wp2_with fail
        go_roundg k
        case measure=>omega
        case rel=>exact ⟨i+1,(⟨u.2,t2.2.1,⟨t1.1,t2.1,st.p.spots,st.p.table⟩,st.n⟩:Bst),O8,rfl,by first|rfl|(rw [E3.out];rfl),by omega,HA2.out,HF2,kp,kt,ka,kr,ks,o_kp,o_kt,o_ka,o_kr,o_ks,oD2,hdoc2,Lib.hid (by exact Hb2.out)⟩
    ·
      have hst1:st=B1∧ ∃bb,decide ((i:Int)<(R.length:Int))=bb∧(bb=false∧ ¬i<R.length∨bb=true∧i<R.length∧st.ok=false):=by
        by_cases h:i<R.length
        ·
          have hf:st.ok=false:=by
            cases hb:st.ok with
            | false=>rfl
            | true=>exact absurd ⟨h,hb⟩ hgo
          exact ⟨bRows_stop Hb.out hf,_,by simpa using h, .inr ⟨rfl,h,hf⟩⟩
        ·
          have hb:=Hb.out
          rw [List.drop_of_length_le (by omega)] at hb
          unfold bRows at hb
          exact ⟨Option.some.inj hb,_,by simpa using h, .inl ⟨rfl,h⟩⟩
      obtain ⟨rfl,bb,n1,hex⟩:=hst1
      clear Hb hgo hk
      have c_kt:=cells_of kt
      rcases hex with ⟨rfl,hlt1⟩|⟨rfl,hlt1,hof⟩<;>
      (skip
       go_wp2_with fail
       go_loopg [126] ds.length (fun k p1 wr=> ∃(i:Nat) (st:Bst) (O':Nat→Prop),p1= .int .i64 (i:Int)∧i+k=ds.length∧AP wr (.pointer q) st.s O'∧Hid (Fr noX O O' w wr)
         ∧wr.heap[W2.heap.size]? =some (.cells #[.int .i64 st.p.wave, .int .i64 st.p.marks, .int .i64 st.p.spots, .int .i64 st.p.table] 63 (0,0))∧wr.heap[W2.heap.size+1]? =some (.cells #[.bool st.ok] 4 (0,0))∧wr.heap[w.heap.size]? =some (.cells #[.pointer q] 25 (0,0))
         ∧ ¬O' (W2.heap.size)∧ ¬O' (W2.heap.size+1)∧ ¬O' w.heap.size∧ ¬O' ad.block∧Hid (Rd2 wr (.slice (some ad) ds.length cap) ds)∧Hid (bTable ((docsM ds).drop i) st=some B2))
       case atStart=>exact ⟨0,_,O1,rfl,by omega,hA,HF,kp,kt,ka,o_kp,o_kt,o_ka,oD,hdoc,H2⟩
       case round=>
         clear hA HF kp kt ka kr ks o_kp o_kt o_ka o_kr o_ks oD hdoc
         obtain ⟨i,st,O1,rfl,hk,hA,HF,kp,kt,ka,o_kp,o_kt,o_ka,oD,hdoc,Hb⟩:=hrel
         have hadlt:ad.block<w.heap.size:=by
           obtain ⟨A,c,hv,hc⟩:=HD.out
           obtain ⟨rfl, -,rfl⟩:=Value.slice.inj hv
           obtain ⟨ad',ha,hlt, -⟩:=hc hlen
           obtain rfl:=Option.some.inj ha
           exact hlt
         have hX: ¬twoX W2.heap.size (W2.heap.size+1) ad.block:=by unfold twoX;omega
         by_cases hlt:i<ds.length
         ·
           obtain ⟨k,rfl⟩: ∃k,gk=k+1:=⟨gk - 1,by omega⟩
           obtain ⟨d,hd⟩:=at_some hlt
           have hx:(docsM ds)[i]? =some (d.1,(d.2.length:Int)):=by unfold docsM;rw [List.getElem?_map,hd];rfl
           have hb:=Hb.out
           rw [drop_at hx] at hb
           unfold bTable at hb
           obtain ⟨a,ha,hb⟩:=Option.bind_eq_some_iff.1 hb
           have hla:a.length≤50000:=by
             by_cases h:a.length≤50000
             ·
               exact h
             ·
               rw [if_neg h] at hb;cases hb
           rw [if_pos hla] at hb
           obtain ⟨r,hr,hb⟩:=Option.bind_eq_some_iff.1 hb
           obtain ⟨t,ht⟩: ∃t,nextA st.ok st.p.table r=t:=⟨_,rfl⟩
           rw [ht] at hb
           dsimp only at hr
           have Ha:=Lib.hid ha;have Hr:=Lib.hid hr;have Hb2:=Lib.hid hb;have Ht:=Lib.hid ht
           have m1:decide ((i:Int)<(ds.length:Int))=true:=by simpa using hlt
           have m2:(i:Int)<(ds.length:Int):=by omega
           have E3:=Lib.hid (step_wrap i 500 (by omega) (by omega))
           obtain ⟨cd1,cd2⟩:wr.cell? (ad.add (i*2))=some (.int .i64 d.1)∧wr.cell? ⟨(ad.add (i*2)).block,(ad.add (i*2)).off+1,none⟩=some (.string ⟨d.2.toArray⟩):=by
             obtain ⟨A,c,hv,hc⟩:=hdoc.out
             obtain ⟨rfl, -,rfl⟩:=Value.slice.inj hv
             obtain ⟨ad',ha,hlt,hc⟩:=hc hlen
             obtain rfl:=Option.some.inj ha
             obtain ⟨-,q1,q2⟩:=hc i d hd
             exact ⟨q1,q2⟩
           clear hb ha hr ht hd hx hlt Hb
           have hF:=Fr.refl ((twoX W2.heap.size (W2.heap.size+1))) O1 wr
           have c_ka:=f3 ka;have l_kawr:=lt_of ka
           have c_kp:=f3 kp;have l_kpwr:=lt_of kp
           have c_kt:=f3 kt;have l_ktwr:=lt_of kt
           go_wp2_with fail
           refine cg fun V4 hV_V4=> ?_
           refine nef3 hV_V4 hA hF ka kp kt ?_;clear hA hF ka kp kt c_ka c_kp c_kt;intro z_V4 hA hF ka c_ka kp c_kp kt c_kt
           clear hV_V4
           refine wC (tAdd_calls _ _ _ a Ha.out hla r Hr.out _ hA) fun W5 O2 hA_W5 hf_W5=> ?_
           refine wif3 hf_W5 hF ka o_ka kp o_kp kt o_kt ?_;clear hA hF ka o_ka kp o_kp kt o_kt c_ka c_kp c_kt hf_W5;intro z_W5 hF ka c_ka o_ka kp c_kp o_kp kt c_kt o_kt;have hA:=hA_W5;clear hA_W5
           go_wp2_with fail
           refine cg fun V5 hV_V5=> ?_
           refine nef3 hV_V5 hA hF ka kp kt ?_;clear hA hF ka kp kt c_ka c_kp c_kt;intro z_V5 hA hF ka c_ka kp c_kp kt c_kt
           clear hV_V5
           refine tC (next_t (W2.heap.size+1) w.heap.size st.ok st.p.table r t Ht.out _ hA kt ka o_kt o_ka ne6) fun W6 O3 hT hf=> ?_
           refine tx2 hT.hA hT.blk hT.no hf hF ka o_ka kp o_kp ?_;clear hA hF kt c_kt o_kt ka o_ka kp o_kp c_ka c_kp hT hf;intro z_W6 hA hF kt c_kt o_kt ka c_ka o_ka kp c_kp o_kp
           clear cd1 cd2
           go_wp2_with fail
           refine handed_gen fun V6 hV_V6=> ?_
           refine nef3 hV_V6 hA hF ka kp kt ?_;clear hA hF ka kp kt c_ka c_kp c_kt;intro z_V6 hA hF ka c_ka kp c_kp kt c_kt
           clear hV_V6
           have HF2:=Lib.hid (HF.out.trans_own hF hY)
           have hdoc2:=Lib.hid (hdoc.out.fr hF oD hX)
           have oD2:=hF.not_own (by have:=HF.out.size;omega) oD
           go_roundg k
           case measure=>omega
           case rel=>exact ⟨i+1,(⟨t.2.2,t.2.1,⟨st.p.wave,st.p.marks,st.p.spots,t.1⟩,st.n⟩:Bst),O3,by first|rfl|(rw [E3.out];rfl),by omega,hA,HF2,kp,kt,ka,o_kp,o_kt,o_ka,oD2,hdoc2,Lib.hid (by exact Hb2.out)⟩
         ·
           obtain rfl:i=ds.length:=by omega
           have hDlen:(docsM ds).length=ds.length:=by unfold docsM;rw [List.length_map]
           have hb:=Hb.out
           rw [List.drop_of_length_le (by omega)] at hb
           unfold bTable at hb
           obtain rfl:=Option.some.inj hb
           have m1:decide ((ds.length:Int)<(ds.length:Int))=false:=by simp
           have h3:=H3.out
           unfold bEnd at h3
           obtain ⟨t4,ht4⟩: ∃t,(if st.ok then nextA true 0 (vMake st.s st.p) else (0,false,st.s))=t:=⟨_,rfl⟩
           rw [ht4] at h3
           dsimp only at h3
           have hz4:t4.2.1=false→t4.1=0:=by
             intro hf
             rw [←ht4] at hf⊢
             cases hk:st.ok with
             | false=>rfl
             | true=>
               rw [hk,if_pos rfl] at hf
               rw [if_pos rfl]
               unfold nextA at hf⊢
               split at hf
               ·
                 cases hf
               ·
                 rename_i h;rw [if_neg h]
           obtain ⟨u,hu,h3⟩:=Option.map_eq_some_iff.1 h3
           have Hu:=Lib.hid hu;have H3':=Lib.hid h3;have Hz4:=Lib.hid hz4
           clear hb Hb hlt hk h3 hu hz4
           by_cases ok2:st.ok=true
           case' pos=>
             rw [ok2,if_pos rfl] at ht4
             rw [ok2] at kt
             have Ht4:=Lib.hid ht4
             have E1:Hid (t4.1=t4.1):=Lib.hid rfl
             clear ht4
             have hF:=Fr.refl ((twoX W2.heap.size (W2.heap.size+1))) O1 wr
             have c_ka:=f3 ka;have l_kawr:=lt_of ka
             have c_kp:=f3 kp;have l_kpwr:=lt_of kp
             have c_kt:=f3 kt;have l_ktwr:=lt_of kt
             go_wp2_with fail
             refine cg fun V4 hV_V4=> ?_
             refine nef3 hV_V4 hA hF ka kp kt ?_;clear hA hF ka kp kt c_ka c_kp c_kt;intro z_V4 hA hF ka c_ka kp c_kp kt c_kt
             clear hV_V4
             refine wC (vMake_calls st.p _ hA) fun W5 O2 hA_W5 hf_W5=> ?_
             refine wif3 hf_W5 hF ka o_ka kp o_kp kt o_kt ?_;clear hA hF ka o_ka kp o_kp kt o_kt c_ka c_kp c_kt hf_W5;intro z_W5 hF ka c_ka o_ka kp c_kp o_kp kt c_kt o_kt;have hA:=hA_W5;clear hA_W5
             go_wp2_with fail
             refine cg fun V5 hV_V5=> ?_
             refine nef3 hV_V5 hA hF ka kp kt ?_;clear hA hF ka kp kt c_ka c_kp c_kt;intro z_V5 hA hF ka c_ka kp c_kp kt c_kt
             clear hV_V5
             refine tC (next_t (W2.heap.size+1) w.heap.size true 0 (vMake st.s st.p) t4 Ht4.out _ hA kt ka o_kt o_ka ne6) fun W6 O3 hT hf=> ?_
             refine tx2 hT.hA hT.blk hT.no hf hF ka o_ka kp o_kp ?_;clear hA hF kt c_kt o_kt ka o_ka kp o_kp c_ka c_kp hT hf;intro z_W6 hA hF kt c_kt o_kt ka c_ka o_ka kp c_kp o_kp
             have HF6:=Lib.hid (HF.out.trans_own hF hY)
             clear hF HF Ht4
             obtain ⟨K0,e2⟩: ∃x,x=t4.2.1:=⟨_,rfl⟩
             rw [←e2] at kt
             have E2:=Lib.hid e2
             clear e2
           case' neg=>
             have okf:st.ok=false:=Bool.eq_false_iff.2 ok2
             rw [okf,if_neg (by decide)] at ht4
             rw [okf] at kt
             have e1:0=t4.1:=by rw [←ht4]
             have e2:false=t4.2.1:=by rw [←ht4]
             have e3:st.s=t4.2.2:=by rw [←ht4]
             clear ht4 ok2 okf
             rw [e3] at hA
             have HF6:=HF
             have E1:=Lib.hid e1;have E2:=Lib.hid e2
             clear HF e1 e2 e3
             obtain ⟨W6,rfl⟩: ∃x,x=wr:=⟨_,rfl⟩
             obtain ⟨O3,rfl⟩: ∃x,x=O1:=⟨_,rfl⟩
           all_goals
            (skip
             have hF:=Fr.refl (noX) O3 W6
             have c_ka:=f3 ka;have l_kaW6:=lt_of ka
             have c_kp:=f3 kp;have l_kpW6:=lt_of kp
             have c_kt:=f3 kt;have l_ktW6:=lt_of kt
             go_wp2_with fail
             refine wg fun V6 hV_V6=> ?_
             refine nnf3 hV_V6 hA hF ka kp kt ?_;clear hA hF ka kp kt c_ka c_kp c_kt;intro hn_V6 z_V6 hA hF ka c_ka kp c_kp kt c_kt
             obtain ⟨kl,c_kl,o_kl,l_klV6⟩:=nN hn_V6 hV_V6 (W6.heap.size)
             clear hV_V6 hn_V6
             rw [E2.out] at kt
             obtain ⟨K,hK⟩: ∃K,t4.2.1=K:=⟨_,rfl⟩
             rw [hK] at kt
             have HF7:=Lib.hid (HF6.out.trans hF)
             have HA6:=Lib.hid hA
             have ka2:=ka;have kt2:=kt;have o_ka2:=o_ka;have o_kt2:=o_kt
             clear hA hF HF6 kp c_kp o_kp ka c_ka kt c_kt o_ka o_kt c_kl
             go_loopw [171] (fun y w3=> ∃i:Nat,i≤4∧y= .int .i64 i∧ ∃O',AP w3 (.pointer q) ([st.p.wave,st.p.marks,st.p.spots,st.p.table].take i|>.foldl dropP t4.2.2) O'∧Fr noX O O' w w3∧w3.heap[W6.heap.size]? =some (.cells #[.int .i64 st.p.wave, .int .i64 st.p.marks, .int .i64 st.p.spots, .int .i64 st.p.table] 3 (0,0))∧w3.heap[w.heap.size]? =some (.cells #[.pointer q] 25 (0,0))∧w3.heap[W2.heap.size+1]? =some (.cells #[.bool K] 4 (0,0))∧ ¬O' W6.heap.size∧ ¬O' w.heap.size∧ ¬O' (W2.heap.size+1)) (fun y _=>4 - (intOf y).toNat)
             case atStart=>exact ⟨0,by omega,rfl,_,HA6.out,HF7.out,kl,ka2,kt2,o_kl,o_ka2,o_kt2⟩
             case round=>
               clear HA6 HF7 kl ka2 kt2 o_kl o_ka2 o_kt2
               obtain ⟨i,hi,rfl,O',hA',hF',kl,ka2,kt2,o_kl,o_ka2,o_kt2⟩:=hrel
               have c_kl:=cells_of kl
               rcases (show i=0∨i=1∨i=2∨i=3∨i=4 by omega) with rfl|rfl|rfl|rfl|rfl
               ·
                 have HA:=Lib.hid hA';have HF5:=Lib.hid hF';clear hA' hF'
                 by_cases hz:st.p.wave=0
                 ·
                   have z1:(st.p.wave !=0)=false:=by simp [hz]
                   have hd:Hid ((dropP t4.2.2 st.p.wave)=t4.2.2):=Lib.hid (by show dropP _ _=_;unfold dropP;rw [if_pos hz])
                   clear hz
                   go_wp2_with fail
                   go_roundw
                   case rel=>exact ⟨1,by omega,rfl,O',by show AP wr (.pointer q) (dropP t4.2.2 st.p.wave) O';rw [hd.out];exact HA.out,HF5.out,kl,ka2,kt2,o_kl,o_ka2,o_kt2⟩
                   case measure=>simp [intOf]
                 ·
                   have z1:(st.p.wave !=0)=true:=by simp [hz]
                   have hd:Hid ((dropP t4.2.2 st.p.wave)=(t4.2.2).drop st.p.wave):=Lib.hid (by show dropP _ _=_;unfold dropP;rw [if_neg hz])
                   clear hz
                   have c_ka2:=cells_of ka2
                   go_wp2_with fail
                   refine (drop_calls _ _ HA.out).mono ?_
                   rintro e1 w1 ⟨rfl,O3,hA1,hf1⟩
                   go_wp2_with fail
                   go_roundw
                   case rel=>exact ⟨1,by omega,rfl,O3,by show AP w1 (.pointer q) (dropP t4.2.2 st.p.wave) O3;rw [hd.out];exact hA1,HF5.out.trans hf1.widen,hf1.keep kl o_kl (fun h=>h),hf1.keep ka2 o_ka2 (fun h=>h),hf1.keep kt2 o_kt2 (fun h=>h),hf1.not_own (lt_of kl) o_kl,hf1.not_own (lt_of ka2) o_ka2,hf1.not_own (lt_of kt2) o_kt2⟩
                   case measure=>simp [intOf]
               ·
                 have HA:=Lib.hid hA';have HF5:=Lib.hid hF';clear hA' hF'
                 by_cases hz:st.p.marks=0
                 ·
                   have z1:(st.p.marks !=0)=false:=by simp [hz]
                   have hd:Hid ((dropP (dropP t4.2.2 st.p.wave) st.p.marks)=(dropP t4.2.2 st.p.wave)):=Lib.hid (by show dropP _ _=_;unfold dropP;rw [if_pos hz])
                   clear hz
                   go_wp2_with fail
                   go_roundw
                   case rel=>exact ⟨2,by omega,rfl,O',by show AP wr (.pointer q) (dropP (dropP t4.2.2 st.p.wave) st.p.marks) O';rw [hd.out];exact HA.out,HF5.out,kl,ka2,kt2,o_kl,o_ka2,o_kt2⟩
                   case measure=>simp [intOf]
                 ·
                   have z1:(st.p.marks !=0)=true:=by simp [hz]
                   have hd:Hid ((dropP (dropP t4.2.2 st.p.wave) st.p.marks)=((dropP t4.2.2 st.p.wave)).drop st.p.marks):=Lib.hid (by show dropP _ _=_;unfold dropP;rw [if_neg hz])
                   clear hz
                   have c_ka2:=cells_of ka2
                   go_wp2_with fail
                   refine (drop_calls _ _ HA.out).mono ?_
                   rintro e1 w1 ⟨rfl,O3,hA1,hf1⟩
                   go_wp2_with fail
                   go_roundw
                   case rel=>exact ⟨2,by omega,rfl,O3,by show AP w1 (.pointer q) (dropP (dropP t4.2.2 st.p.wave) st.p.marks) O3;rw [hd.out];exact hA1,HF5.out.trans hf1.widen,hf1.keep kl o_kl (fun h=>h),hf1.keep ka2 o_ka2 (fun h=>h),hf1.keep kt2 o_kt2 (fun h=>h),hf1.not_own (lt_of kl) o_kl,hf1.not_own (lt_of ka2) o_ka2,hf1.not_own (lt_of kt2) o_kt2⟩
                   case measure=>simp [intOf]
               ·
                 have HA:=Lib.hid hA';have HF5:=Lib.hid hF';clear hA' hF'
                 by_cases hz:st.p.spots=0
                 ·
                   have z1:(st.p.spots !=0)=false:=by simp [hz]
                   have hd:Hid ((dropP (dropP (dropP t4.2.2 st.p.wave) st.p.marks) st.p.spots)=(dropP (dropP t4.2.2 st.p.wave) st.p.marks)):=Lib.hid (by show dropP _ _=_;unfold dropP;rw [if_pos hz])
                   clear hz
                   go_wp2_with fail
                   go_roundw
                   case rel=>exact ⟨3,by omega,rfl,O',by show AP wr (.pointer q) (dropP (dropP (dropP t4.2.2 st.p.wave) st.p.marks) st.p.spots) O';rw [hd.out];exact HA.out,HF5.out,kl,ka2,kt2,o_kl,o_ka2,o_kt2⟩
                   case measure=>simp [intOf]
                 ·
                   have z1:(st.p.spots !=0)=true:=by simp [hz]
                   have hd:Hid ((dropP (dropP (dropP t4.2.2 st.p.wave) st.p.marks) st.p.spots)=((dropP (dropP t4.2.2 st.p.wave) st.p.marks)).drop st.p.spots):=Lib.hid (by show dropP _ _=_;unfold dropP;rw [if_neg hz])
                   clear hz
                   have c_ka2:=cells_of ka2
                   go_wp2_with fail
                   refine (drop_calls _ _ HA.out).mono ?_
                   rintro e1 w1 ⟨rfl,O3,hA1,hf1⟩
                   go_wp2_with fail
                   go_roundw
                   case rel=>exact ⟨3,by omega,rfl,O3,by show AP w1 (.pointer q) (dropP (dropP (dropP t4.2.2 st.p.wave) st.p.marks) st.p.spots) O3;rw [hd.out];exact hA1,HF5.out.trans hf1.widen,hf1.keep kl o_kl (fun h=>h),hf1.keep ka2 o_ka2 (fun h=>h),hf1.keep kt2 o_kt2 (fun h=>h),hf1.not_own (lt_of kl) o_kl,hf1.not_own (lt_of ka2) o_ka2,hf1.not_own (lt_of kt2) o_kt2⟩
                   case measure=>simp [intOf]
               ·
                 have HA:=Lib.hid hA';have HF5:=Lib.hid hF';clear hA' hF'
                 by_cases hz:st.p.table=0
                 ·
                   have z1:(st.p.table !=0)=false:=by simp [hz]
                   have hd:Hid ((dropP (dropP (dropP (dropP t4.2.2 st.p.wave) st.p.marks) st.p.spots) st.p.table)=(dropP (dropP (dropP t4.2.2 st.p.wave) st.p.marks) st.p.spots)):=Lib.hid (by show dropP _ _=_;unfold dropP;rw [if_pos hz])
                   clear hz
                   go_wp2_with fail
                   go_roundw
                   case rel=>exact ⟨4,by omega,rfl,O',by show AP wr (.pointer q) (dropP (dropP (dropP (dropP t4.2.2 st.p.wave) st.p.marks) st.p.spots) st.p.table) O';rw [hd.out];exact HA.out,HF5.out,kl,ka2,kt2,o_kl,o_ka2,o_kt2⟩
                   case measure=>simp [intOf]
                 ·
                   have z1:(st.p.table !=0)=true:=by simp [hz]
                   have hd:Hid ((dropP (dropP (dropP (dropP t4.2.2 st.p.wave) st.p.marks) st.p.spots) st.p.table)=((dropP (dropP (dropP t4.2.2 st.p.wave) st.p.marks) st.p.spots)).drop st.p.table):=Lib.hid (by show dropP _ _=_;unfold dropP;rw [if_neg hz])
                   clear hz
                   have c_ka2:=cells_of ka2
                   go_wp2_with fail
                   refine (drop_calls _ _ HA.out).mono ?_
                   rintro e1 w1 ⟨rfl,O3,hA1,hf1⟩
                   go_wp2_with fail
                   go_roundw
                   case rel=>exact ⟨4,by omega,rfl,O3,by show AP w1 (.pointer q) (dropP (dropP (dropP (dropP t4.2.2 st.p.wave) st.p.marks) st.p.spots) st.p.table) O3;rw [hd.out];exact hA1,HF5.out.trans hf1.widen,hf1.keep kl o_kl (fun h=>h),hf1.keep ka2 o_ka2 (fun h=>h),hf1.keep kt2 o_kt2 (fun h=>h),hf1.not_own (lt_of kl) o_kl,hf1.not_own (lt_of ka2) o_ka2,hf1.not_own (lt_of kt2) o_kt2⟩
                   case measure=>simp [intOf]
               ·
                 have HA:=Lib.hid hA';have HF5:=Lib.hid hF';clear hA' hF' c_kl
                 have hA7:AP wr (.pointer q) (dropP (dropP (dropP (dropP t4.2.2 st.p.wave) st.p.marks) st.p.spots) st.p.table) O':=HA.out
                 have HA7:=Lib.hid hA7;clear hA7 HA
                 have c_ka2:=cells_of ka2
                 have hlast:t4.1=root∧K=okr∧u.2=s':=by
                   have h3:=H3'.out
                   rw [if_neg (fun h=>h.2 (Hz4.out h.1))] at h3
                   simp only [Prod.mk.injEq] at h3
                   exact ⟨h3.1,hK.symm.trans h3.2.1,h3.2.2⟩
                 obtain ⟨rfl,rfl,rfl⟩:=hlast
                 have hKK:K=true∨K=false∧(t4.1 !=0)=false:=by
                   cases hk:K with
                   | true=>exact .inl rfl
                   | false=>exact .inr ⟨rfl,by rw [Hz4.out (hK.trans hk)];rfl⟩
                 rcases hKK with rfl|⟨rfl,z0⟩<;>
                 (skip
                  go_wp2_with fail
                  refine (work_calls 1073741824 u Hu.out _ HA7.out).mono ?_
                  rintro e8 W8 ⟨rfl,O8,hA8,hf8⟩
                  have kt8:=hf8.keep kt2 o_kt2 (fun h=>h)
                  have c_kt8:=cells_of kt8
                  have HA8:=Lib.hid hA8
                  have HF8:=Lib.hid (HF5.out.trans hf8)
                  clear hA8 hf8
                  have hA:=HA8.out
                  clear c_kt8 c_ka2
                  have hF:=Fr.refl (noX) O8 W8
                  have c_kt8:=f3 kt8;have l_kt8W8:=lt_of kt8
                  go_wp2_with fail
                  refine wg fun V9 hV_V9=> ?_
                  refine nef1 hV_V9 hA hF kt8 ?_;clear hA hF kt8 c_kt8;intro z_V9 hA hF kt8 c_kt8
                  clear hV_V9
                  refine dr (fun v=>Sm v V9 (W2.heap.size+1)∧(V9.heap.size≤v.heap.size)∧AP v (.pointer q) u.2 O8) ⟨fun _=>rfl,Nat.le_refl _,hA.drew⟩ fun V9d hV_V9d hHeld=> ?_
                  have v_kt8:=c_kt8.1
                  refine nef1 hV_V9d hA hF kt8 ?_;clear hA hF kt8 c_kt8;intro z_V9d hA hF kt8 c_kt8
                  clear hV_V9d
                  refine ta 0 hHeld ?_
                  refine ta 1 hHeld ?_
                  refine rd 2 rfl fun K hK=> ?_
                  go_simp
                  refine ho hK hHeld fun hHeld=> ?_
                  clear hK K
                  refine rd 3 rfl fun K hK=> ?_
                  go_simp
                  refine ho hK hHeld fun hHeld=> ?_
                  clear hK K
                  refine wd ?_
                  have HFF:=Lib.hid (HF8.out.trans hF)
                  have HAA:=Lib.hid hA
                  clear hF hA
                  go_wp2_with fail
                  go_ret2
                  exact ⟨by first|rfl|(rw [←E1.out];rfl),O8,HAA.out,HFF.out⟩)))
end
section
open Go.RowKit
theorem build_partsF {s : Ar} (hI : Inv s []) (hw : s.wait = []) {ds : Docs} (h : Right ds) (hne : ds ≠ []) (rate : Int) :
    ∃B1 B2 root ok s',bRows rate (rowsM ds) 0 ⟨s,true,Parts.zero,0⟩=some B1∧bTable (docsM ds) B1=some B2∧bEnd B2=some (root,ok,s')
      ∧Inv s' [root]∧s'.wait=[]∧s'.size=s.size∧((ok=true∧root≠0∧VR s' root ds rate)∨(ok=false∧root=0)):=by
  obtain ⟨⟨root,ok,s'⟩,hr,h1,h2,h3,h4,h5⟩:=bBuild_T hI hw h rate
  unfold bBuild at hr
  rw [if_neg (show docsM ds≠[] by unfold docsM;simpa using hne)] at hr
  obtain ⟨B1,e1,hr⟩:=Option.bind_eq_some_iff.1 hr
  obtain ⟨B2,e2,e3⟩:=Option.bind_eq_some_iff.1 hr
  refine ⟨B1,B2,root,ok,s',e1,e2,e3,h1,h2,h3,?_⟩
  rcases h5 with ⟨o,v⟩|⟨o,z, -⟩
  · refine .inl ⟨o,fun hz=> ?_,v⟩
    rcases h4 hz with q|q
    · exact hne q
    · cases o.symm.trans q
  · exact .inr ⟨o,z⟩
theorem bldF_calls {w0 W : World} {p : Addr} {L : List (Nat × Obj)} (n : Nat) (hn2 : n ≤ 6000) (h : St w0 W (.pointer (some p)) (Ar.new n) L) (rate : Int) (hr1 : 1 ≤ rate) (hr2 : rate ≤ 1000) (ds : Docs) (hR : Right ds) (A : Option Addr) (cap : Nat) (hD : Rd2 W (.slice A ds.length cap) ds) (hno : ∀ a, A = some a → 0 < ds.length → ∀ O, AP W (.pointer (some p)) (Ar.new n) O → (∀ b, O b → w0.heap.size ≤ b) → (∀ y ∈ L, W.heap[y.1]? = some y.2 ∧ ¬ O y.1) → ¬ O a.block) :
    Calls Tryz.prog 17 #[.pointer (some p), .int .i64 rate, .slice A ds.length cap] W fun e w'=> ∃root ok s',e= .returned (.tuple #[.int .i64 root, .bool ok])∧St w0 w' (.pointer (some p)) s' L∧Inv s' [root]∧s'.wait=[]∧s'.size=n
      ∧((ok=true∧VR s' root ds rate∧(root=0↔ds=[]))∨(ok=false∧root=0)):=by
  by_cases hne:ds=[]
  · subst hne
    refine (bldnil_calls (some p) rate A 0 cap rfl W).mono ?_
    rintro e w' ⟨he,hb⟩
    exact ⟨0,true,_,he,h.below hb,(Inv.new n hn2).zero_cons (by simp),rfl,rfl, .inl ⟨rfl,⟨.inl ⟨rfl,rfl⟩,fun h=>absurd rfl h⟩,⟨fun _=>rfl,fun _=>rfl⟩⟩⟩
  · obtain ⟨A',c',hv,h2⟩:=id hD
    obtain ⟨rfl, -,rfl⟩:=Value.slice.inj hv
    have hpos:=List.length_pos_iff.2 hne
    obtain ⟨ad,rfl,hlt, -⟩:=h2 hpos
    obtain ⟨O,hA,hO,hL⟩:=h.ex
    obtain ⟨B1,B2,root,ok,s',h1,h2',h3,hI,hwt,hz,hv⟩:=build_partsF (Inv.new n hn2) rfl hR hne rate
    refine (buildF_calls rate hr1 hr2 ds ad cap hne hR.right W hD (fun hq=>hno ad rfl hpos O hA hO hL hq) hA B1 B2 h1 h2' root ok s' h3).mono ?_
    rintro e w' ⟨he,O',a,b⟩
    refine ⟨root,ok,s',he,h.did (O':=O') ⟨O,hA,hO,hL,a,b⟩,hI,hwt,hz,?_⟩
    rcases hv with ⟨o,h0,v⟩|⟨o,z⟩
    · exact .inl ⟨o,v,⟨fun e=>absurd e h0,fun e=>absurd e hne⟩⟩
    · exact .inr ⟨o,z⟩
end
section
open Go.RowKit
theorem fin_T {s0 t : Ar} {root : Int} {ds : Docs} {rate : Int} (hI : Inv s0 [root]) (hw : s0.wait = []) (hv : VR s0 root ds rate) (hR : Right ds) (h1 : 1 ≤ rate) (h2 : rate ≤ 16) (a1 : Inv t [root]) (a2 : Stay s0 t [root]) :
    ∃u,t.work 1073741824=some u∧u.2.busy=s0.busy∧(root≠0→u.2.cnt root=1)∧vCheck u.2 root rate ds=some true:=by
  obtain ⟨u,w1,w2,w3, -,w5⟩:=a1.work (by simp) 1073741824
  have hw2:=w5 (by omega)
  have hst:Stay s0 u.2 [root]:=a2.trans w3
  have hv2:VR u.2 root ds rate:=hv.move (fun t ht=>ht.held hst (by simp)) (fun e=>w2.pos (by simp) e)
  refine ⟨u,w1,?_,cnt_one w2 hw2,hv2.check_own w2 hR h1 h2⟩
  rw [w2.busy,hI.busy,hI.busy_same hw w2 hw2 hst]
section
variable {s0 : Ar} {root : Int} {ds : Docs} {k : Nat} {d : Int × List UInt8} {rate : Int} {x : Ct} {j : Nat}
structure LoopD (s0:Ar) (root:Int) (ds:Docs) (k:Nat) (d:Int×List UInt8) (rate:Int) (j:Nat) (x:Ct):Prop where
  st:StageC x [root] ds k d rate j
  stay:Stay s0 x.s [root]
structure EndD (s0:Ar) (root:Int) (x:Ct):Prop where
  over:x.over=true
  inv:Inv x.s [root]
  stay:Stay s0 x.s [root]
theorem newD_T {s : Ar} (hI : Inv s [root]) (hw : s.wait = []) (hv : VR s root ds rate) (hk : ds[k]? = some d) :
    LoopD s root ds k d rate (2*d.2.length+3) (Ct.new s root d.1 (d.2.length:Int) (k:Int))∧(root≠0→(s.keep root).cnt root=2):=by
  obtain ⟨a,b, -⟩:=newC_T hI (by simp) hv hk
  refine ⟨⟨.inl ⟨0,by omega,by omega,a⟩,b.stay hI⟩,fun h0=> ?_⟩
  have h1:=cnt_one hI hw h0
  obtain ⟨n,rfl,n1,n2,n3⟩:=has_nat (hI.held root (by simp) h0)
  unfold Ar.keep
  rw [if_neg (by rw [h1];decide),h1]
  unfold Ar.cnt
  rw [if_pos (by dsimp only;omega)]
  dsimp only
  rw [Int.toNat_natCast,upd_self]
  exact w64 (by omega) (by omega)
theorem LoopD.next (h : LoopD s0 root ds k d rate (j + 1) x) (hR : Right ds) (hk : ds[k]? = some d) (h1 : 1 ≤ rate) (h2 : rate ≤ 16) :
    CtOk x∧ ∃o e y,x.step=some (o,e,y)∧
      ((e=0∧o=false∧1≤j∧LoopD s0 root ds k d rate j y)∨
       (e=0∧o=true∧vCheck y.s y.root rate (ds.eraseIdx k)=some true∧EndD s0 root {y with s:=y.s.drop y.root}∧(y.root≠0→1≤y.s.cnt y.root))∨
       (e=2∧o=true∧y.root=0∧EndD s0 root y)):=by
  refine ⟨h.st.ok hR hk,?_⟩
  have hx:=h.st.inv
  obtain ⟨o,e,y,e1,g, -,h3⟩:=stepC_full h.st hR hk (by simp)
  have hs:Stay s0 y.s [root]:=h.stay.trans ((g.stay hx).mono fun q hq _=>StageC.list_mem x [root] (j+1) hq)
  refine ⟨o,e,y,e1,?_⟩
  rcases h3 with ⟨rfl,rfl,hy, -⟩|⟨rfl,rfl, -,ho,hI,hz⟩
  · rcases Nat.eq_zero_or_pos j with rfl|hj
    · refine .inr (.inl ⟨rfl,rfl,?_⟩)
      rcases hy with ⟨a,ha,hj,h3⟩|⟨m,hm,hj,h3⟩|⟨-,a,b,c,e⟩
      · omega
      · omega
      · refine ⟨c.check_own b (hR.era k) h1 h2,⟨a,b.drop,hs.trans ?_⟩,fun h0=> ?_⟩
        · exact ((Grow.drop y.s y.root).stay b).mono fun q hq _=>List.mem_cons_of_mem _ hq
        · have:=b.cpos (b.held y.root (by simp) h0) (b.pos (by simp) h0)
          omega
    · exact .inl ⟨rfl,decide_eq_false (by omega),hj,hy,hs⟩
  · exact .inr (.inr ⟨rfl,rfl,hz,ho,hI,hs⟩)
theorem LoopD.stop (h:LoopD s0 root ds k d rate (j+1) x):EndD s0 root x.stop:=by
  obtain ⟨a1,a2,a3⟩:=stopC_any h.st
  exact ⟨rfl,a1,h.stay.trans ((a2.stay h.st.inv).mono fun q hq _=>StageC.list_mem x [root] (j+1) hq)⟩
theorem EndD.stop (h:EndD s0 root x):x.stop=x:=by
  have h1:x.held=[]:=by unfold Ct.held;rw [h.over,if_pos rfl]
  unfold Ct.stop
  rw [h1]
  obtain ⟨h2, -, -⟩:=h
  cases x
  dsimp only at h2⊢
  subst h2
  rfl
theorem EndD.fin (h : EndD s0 root x) (hI : Inv s0 [root]) (hw : s0.wait = []) (hv : VR s0 root ds rate) (hR : Right ds) (h1 : 1 ≤ rate) (h2 : rate ≤ 16) :
    x.left=0∧x.held=[]∧ ∃u,x.s.work 1073741824=some u∧u.2.busy=s0.busy∧(root≠0→u.2.cnt root=1)∧vCheck u.2 root rate ds=some true:=
  ⟨by unfold Ct.left;rw [h.over,if_pos rfl],by unfold Ct.held;rw [h.over,if_pos rfl],fin_T hI hw hv hR h1 h2 h.inv h.stay⟩
end
end
section
open Go.RowKit
attribute [local go_sem ↓] Go.wp_at_zero Go.wp_at_succ
attribute [local go_sem] str_len
theorem rd2_block {w:World} {ad:Addr} {cap:Nat} {ds:Docs} (h:Rd2 w (.slice (some ad) ds.length cap) ds) (hp:0<ds.length):ad.block<w.heap.size:=by
  obtain ⟨A,c,hv,hc⟩:=h
  obtain ⟨rfl, -,rfl⟩:=Value.slice.inj hv
  obtain ⟨ad',ha,hlt, -⟩:=hc hp
  obtain rfl:=Option.some.inj ha
  exact hlt
theorem cutStops_walk (A : Option Addr) (cap : Nat) (ds : Docs) (id rate steps room : Int) (hl : ds.length ≤ maxLen) (hid : IdOk ds) (w : World) (h : Rd2 w (.slice A ds.length cap) ds) :
    Calls Tryz.prog 8 #[.slice A ds.length cap, .int .i64 id, .int .i64 rate, .int .i64 steps, .int .i64 room] w fun e w'=>e= .returned (.bool true)∧Below w.heap.size w w':=by
  have HK:=Lib.hid h;clear h
  cases hf:few ds with
  | false=>
    have Hf:=Lib.hid hf;clear hf
    go_enter Tryz.func8,Tryz.ntmps8
    go_wp2_with fail
    refine (few_calls _ ds hl _ HK.out).mono ?_
    rintro e0 W0 ⟨rfl,hb1⟩
    rw [Hf.out]
    have HB0:=Lib.hid hb1;clear hb1
    go_wp2_with fail
    refine (alive14_calls _).mono ?_
    rintro e1 W1 ⟨rfl,hb1⟩
    have HB1:=Lib.hid (below_step HB0.out hb1);clear hb1
    go_wp2_with fail
    go_ret
    exact ⟨rfl,HB1.out⟩
  | true=>
    obtain ⟨hR,htot,hl10⟩:=few_right hf hid
    have hrows0:=rows_tot hR
    have Hf:=Lib.hid hf;have HR:=Lib.hid hR
    have HL10:Hid (ds.length≤50000):=Lib.hid (by omega)
    obtain ⟨P,hP⟩: ∃P,placeZ id ds 0=P:=⟨_,rfl⟩
    have HP:=Lib.hid hP
    have hcase : (decide (rate < 1) = true ∨ (decide (rate < 1) = false ∧ (decide (16 < rate) = true ∨ (decide (16 < rate) = false ∧ (decide (id < 1) = true ∨ (decide (id < 1) = false ∧ (decide (P < 0) = true ∨ (decide (P < 0) = false ∧ (decide (steps < 0) = true ∨ (decide (steps < 0) = false ∧ (decide (100 < steps) = true ∨ (decide (100 < steps) = false ∧ (decide (room < 1) = true ∨ (decide (room < 1) = false ∧ decide (6000 < room) = true)))))))))))))) ∨
        (decide (rate<1)=false∧decide (16<rate)=false∧decide (id<1)=false∧decide (P<0)=false∧decide (steps<0)=false∧decide (100<steps)=false∧decide (room<1)=false∧decide (6000<room)=false):=by
      simp only [decide_eq_true_eq,decide_eq_false_iff_not];omega
    rcases hcase with hno|⟨d1,d2,d3,d4,d5,d6,d7,d8⟩
    · clear hR htot hl10 hP hrows0 hf
      rcases hno with d1|⟨d1,d2|⟨d2,d3|⟨d3,d4|⟨d4,d5|⟨d5,d6|⟨d6,d7|⟨d7,d8⟩⟩⟩⟩⟩⟩⟩<;>
      (go_enter Tryz.func8,Tryz.ntmps8
       go_wp2_with fail
       refine (few_calls _ ds hl _ HK.out).mono ?_
       rintro e0 W0 ⟨rfl,hb1⟩
       rw [Hf.out]
       have HB0:=Lib.hid hb1;clear hb1
       go_wp2_with fail
       first
         | (refine (place_calls _ ds id HL10.out _ (HK.out.below HB0.out)).mono ?_
            rintro e1 W1 ⟨rfl,hb1⟩
            rw [HP.out]
            have HB1:=Lib.hid (below_step HB0.out hb1)
            clear hb1
            go_wp2_with fail
            refine (alive14_calls _).mono ?_
            rintro e2 W2 ⟨rfl,hb2⟩
            have HB2:=Lib.hid (below_step HB1.out hb2)
            clear hb2
            go_wp2_with fail
            go_ret
            exact ⟨rfl,HB2.out⟩)
         | (refine (alive14_calls _).mono ?_
            rintro e2 W2 ⟨rfl,hb2⟩
            have HB2:=Lib.hid (below_step HB0.out hb2)
            clear hb2
            go_wp2_with fail
            go_ret
            exact ⟨rfl,HB2.out⟩))
    have hb8:1≤rate∧rate≤16∧1≤id∧0≤P∧0≤steps∧steps≤100∧1≤room∧room≤6000:=by
      simp only [decide_eq_false_iff_not] at d1 d2 d3 d4 d5 d6 d7 d8;omega
    obtain ⟨n1,n2,n3,n4,n5,n6,n7,n8⟩:=hb8
    obtain ⟨j,d,hj,hd,hdi⟩:=placeZ_get id ds 0 (by omega) (by rw [hP];exact n4)
    have hpos:0<ds.length:=by have:=(List.getElem?_eq_some_iff.1 hd).1;omega
    obtain ⟨ad,rfl⟩: ∃ad,A=some ad:=by
      obtain ⟨A',c,hv,hc⟩:=HK.out
      obtain ⟨rfl, -,rfl⟩:=Value.slice.inj hv
      obtain ⟨ad,ha, -⟩:=hc hpos
      exact ⟨ad,ha⟩
    have HAD:=Lib.hid (rd2_block HK.out hpos)
    obtain ⟨N,rfl⟩: ∃N:Nat,room=N:=⟨room.toNat,by omega⟩
    obtain ⟨M,rfl⟩: ∃M:Nat,steps=M:=⟨steps.toNat,by omega⟩
    subst hdi
    have HD:=Lib.hid hd;have HJ:Hid (P=(j:Int)):=Lib.hid (by rw [←hP,hj];omega)
    have HPOS:=Lib.hid hpos
    have H2:=Lib.hid n1;have H3:=Lib.hid n2
    have HN1:Hid (1≤N):=Lib.hid (by omega)
    have HN2:Hid (N≤6000):=Lib.hid (by omega)
    have HM:Hid (M≤100):=Lib.hid (by omega)
    clear hR htot hl10 hP hrows0 hf n1 n2 n3 n4 n5 n6 n7 n8 hj hd hpos
    go_enter Tryz.func8,Tryz.ntmps8
    go_wp2_with fail
    refine (few_calls _ ds hl _ HK.out).mono ?_
    rintro e0 W0 ⟨rfl,hb1⟩
    rw [Hf.out]
    have HB0:=Lib.hid hb1;clear hb1
    go_wp2_with fail
    refine (place_calls _ ds d.1 HL10.out _ (HK.out.below HB0.out)).mono ?_
    rintro e1 W1 ⟨rfl,hb1⟩
    rw [HP.out]
    have HB1:=Lib.hid (below_step HB0.out hb1)
    clear hb1
    go_wp2_with fail
    refine (alive14_calls _).mono ?_
    rintro e2 W2 ⟨rfl,hb2⟩
    have HB2:=Lib.hid (below_step HB1.out hb2)
    clear hb2 d1 d2 d3 d4 d5 d6 d7 d8
    go_wp2_with fail
    refine (new_calls N HN1.out HN2.out _).mono ?_
    rintro e3 W3 ⟨p,O,rfl,hA,hO,hb3⟩
    have HS3:Hid (St w W3 (.pointer (some ⟨p,0,none⟩)) (Ar.new N) []):=Lib.hid (St.new (below_step HB2.out hb3) hA fun b hb=>Nat.le_trans HB2.out.size (hO b hb))
    clear hA hO hb3
    go_wp2_with fail
    refine (bldF_calls N HN2.out HS3.out rate H2.out (by have:=H3.out;omega) ds HR.out (some ad) cap (HK.out.below HS3.out.bel) (fun a ha _ O _ hO _ hq=>by
      obtain rfl:=Option.some.inj ha
      have:=hO _ hq
      have:=HAD.out
      omega)).mono ?_
    rintro e4 W4 ⟨root,ok,s,rfl,hS,hI,hwt,hsz,hv⟩
    rcases hv with ⟨rfl,hv,hroot⟩|⟨rfl,rfl⟩
    · obtain ⟨r,r1,r2,r3,r4,r5,r6⟩:=newC_in hI hv HR.out HD.out
      obtain ⟨hlg,hc2⟩:=newD_T hI hwt hv HD.out
      have h0:root≠0:=fun e=>by have:=hroot.1 e;have h2:=HPOS.out;rw [this] at h2;exact absurd h2 (by simp)
      obtain ⟨x0,hx0⟩: ∃x0,Ct.new s root d.1 (d.2.length:Int) (j:Int)=x0:=⟨_,rfl⟩
      have HC2:Hid (x0.s.cnt root=2):=Lib.hid (by rw [←hx0];exact hc2 h0)
      rw [hx0] at hlg
      have HLG:=Lib.hid hlg;have HS4:=Lib.hid hS;have HI:=Lib.hid hI;have HWT:=Lib.hid hwt;have HV:=Lib.hid hv;have H0:=Lib.hid h0
      have R1:=Lib.hid r1;have R2:=Lib.hid r2;have R3:=Lib.hid r3;have R4:=Lib.hid r4;have R5:=Lib.hid r5
      have HX0:Hid (Ct.new s root d.1 r.1.2 (j:Int)=x0):=Lib.hid (by rw [r6];exact hx0)
      clear hS hI hwt hsz hv hroot r1 r2 r3 r4 r5 r6 hlg hc2 hx0 h0
      go_wp2_with fail
      refine (HS4.out.same fun O hA=>used_calls _ hA).mono ?_
      rintro e5 W5 ⟨rfl,h5⟩
      have HS5:=Lib.hid h5
      clear h5 HS4
      have hcon:=HS5.out.cut root rate d.1 (j:Int) (docsM ds) r R1.out R2.out R3.out H2.out H3.out R4.out R5.out
      rw [HX0.out] at hcon
      have HCON:=Lib.hid hcon
      clear hcon R1 R2 R3 R4 R5 HX0
      go_wp2_with fail
      refine HCON.out.mono ?_
      rintro e6 W6 ⟨b,rfl,h6⟩
      have H6:=Lib.hid h6
      clear h6 HCON HS5
      go_wp2_with fail
      refine (H6.out.same fun O A cap hT=>count_calls root _ hT.hA).mono ?_
      rintro e7 W7 ⟨rfl,h7⟩
      have H7:=Lib.hid h7
      clear h7 H6
      rw [HC2.out]
      go_wp2_with fail
      go_loopg [17] M (fun m c17 wr=> ∃(k G:Nat) (x:Ct),c17= .int .i64 (k:Int)∧k+m=M∧Hid (Sc w wr (.pointer (some ⟨p,0,none⟩)) b x []∧LoopD s root ds j d rate (G+1) x))
      case atStart=>exact ⟨0,2*d.2.length+2,x0,rfl,by omega,Lib.hid ⟨H7.out,HLG.out⟩⟩
      case round=>
        obtain ⟨k,G,x,rfl,hk,HX⟩:=hrel
        clear H7 HLG HC2
        by_cases hkm:k<M
        · obtain ⟨m,rfl⟩: ∃m,gk=m+1:=⟨gk - 1,by omega⟩
          have n1:decide ((k:Int)<(M:Int))=true:=by simpa using hkm
          have n2:(k:Int)<(M:Int):=by omega
          have E3:Hid (wrap64 ((k:Int)+1)=(k:Int)+1):=Lib.hid (IntWalk.wrap64_in _ (by have:=HM.out;omega))
          have HKM:Hid (k+1+m=M∧m<m+1):=Lib.hid (by omega)
          obtain ⟨hok,o,e,y,y1,y2⟩:=HX.out.2.next HR.out HD.out H2.out H3.out
          have HOK:=Lib.hid hok;have HY1:=Lib.hid y1
          clear hok y1 hk hkm
          rcases y2 with ⟨rfl,rfl,hj1,hy⟩|⟨rfl,rfl,hck,hen,hcn⟩|⟨rfl,rfl,hz,hen⟩
          · obtain ⟨G,rfl⟩: ∃G',G=G'+1:=⟨G - 1,by omega⟩
            have HY:=Lib.hid hy
            clear hj1 hy
            go_wp2_with fail
            refine (HX.out.1.act fun O A cap hT hR=>cStep_calls x HOK.out _ HY1.out _ hT hR).mono ?_
            rintro e9 W9 ⟨rfl,h9⟩
            have H9:=Lib.hid h9
            clear h9
            go_wp2_with fail
            have e6:=E3.out
            go_roundg m
            case measure=>exact HKM.out.2
            case rel=>exact ⟨k+1,G,_,by first|rfl|(rw [e6];rfl),HKM.out.1,Lib.hid ⟨H9.out,HY.out⟩⟩
          · have hle:=lessD_era HR.out HD.out
            have hRl:Right (lessD ds d.1):=hle▸HR.out.era j
            rw [←hle] at hck
            have HCK:=Lib.hid hck;have HRL:=Lib.hid hRl
            have HLL:Hid ((lessD ds d.1).length≤50000):=Lib.hid (by have:=lessD_len ds d.1;have:=HL10.out;omega)
            have HEN:=Lib.hid hen
            clear hle hRl hck hen
            go_wp2_with fail
            refine (HX.out.1.act fun O A cap hT hR=>cStep_calls x HOK.out _ HY1.out _ hT hR).mono ?_
            rintro e9 W9 ⟨rfl,h9⟩
            have H9:=Lib.hid h9
            clear h9 HX
            obtain ⟨R,hR⟩: ∃R,y.root=R:=⟨_,rfl⟩
            have HRR:=Lib.hid hR
            rw [hR] at hcn
            have HCN:=Lib.hid hcn
            clear hR hcn
            go_wp2_with fail
            refine (H9.out.same fun O A cap hT=>cRoot_calls _ hT).mono ?_
            rintro ea Wa ⟨rfl,ha⟩
            have HA:=Lib.hid ha
            clear ha H9
            rw [HRR.out]
            go_wp2_with fail
            refine (without_calls _ ds d.1 HL10.out _ (HK.out.below HA.out.bel)).mono ?_
            rintro eb Wb ⟨A14,c14,rfl,hrd,hbb⟩
            have HB:=Lib.hid (HA.out.below hbb);have HRD:=Lib.hid hrd
            clear hrd hbb HA
            go_wp2_with fail
            refine (HB.out.read fun O A cap hT=>check_calls R rate (lessD ds d.1) _ true (by rw [←HRR.out];exact HCK.out) HLL.out HRL.out.txt50 _ hT.hA HRD.out).mono ?_
            rintro ec Wc ⟨rfl,hc⟩
            have HC:=Lib.hid hc
            clear hc HB HRD HCK
            go_wp2_with fail
            refine (HC.out.same fun O A cap hT=>cRoot_calls _ hT).mono ?_
            rintro ed Wd ⟨rfl,hd⟩
            have HDD:=Lib.hid hd
            clear hd HC
            rw [HRR.out]
            by_cases h0:R=0
            · have d0:(R !=0)=false:=by simpa using h0
              have HE:Hid (EndD s root y.stop):=Lib.hid (by
                have h:=HEN.out
                obtain ⟨a,b,c⟩:=h
                dsimp only at a b c
                rw [HRR.out,h0,drop_zero] at b c
                have h:EndD s root y:=⟨a,b,c⟩
                rw [h.stop];exact h)
              clear h0
              obtain ⟨yy,hyy⟩: ∃yy,yy=y:=⟨_,rfl⟩
              have HT:=HDD
              rw [←hyy] at HT HE
              clear hyy HY1 HDD HRR HEN
              obtain ⟨z1,z2,u,y1,y3,y4,y5⟩:=HE.out.fin HI.out HWT.out HV.out HR.out H2.out H3.out
              have HZ1:=Lib.hid z1;have HZ2:=Lib.hid z2;have HY1:=Lib.hid y1;have HY3:=Lib.hid y3;have HY4:=Lib.hid (y4 H0.out);have HY5:=Lib.hid y5
              clear z1 z2 y1 y3 y4 y5
              go_wp2_with fail
              refine (HT.out.act fun O A cap hT hR=>(cStop_calls yy _ hT).mono fun e w' ⟨he,hD⟩=>⟨he,didr_of hR hD rfl⟩).mono ?_
              rintro e10 W10 ⟨rfl,h10⟩
              have H10:=Lib.hid h10
              clear h10 HT
              go_wp2_with fail
              refine (H10.out.write fun O hA=>work_calls _ _ HY1.out _ hA).mono ?_
              rintro e11 W11 ⟨rfl,h11⟩
              obtain ⟨z,hz⟩: ∃z:Ct,{yy.stop with s:=u.2}=z:=⟨_,rfl⟩
              rw [hz] at h11
              have HZL:Hid (z.left=0):=Lib.hid (by rw [←hz];exact HZ1.out)
              have HZO:Hid (z.over=true):=Lib.hid (by rw [←hz];rfl)
              have HZB:Hid (z.s.busy=s.busy):=Lib.hid (by rw [←hz];exact HY3.out)
              have HZC:Hid (z.s.cnt root=1):=Lib.hid (by rw [←hz];exact HY4.out)
              have HZV:Hid (vCheck z.s root rate ds=some true):=Lib.hid (by rw [←hz];exact HY5.out)
              have H11:=Lib.hid h11
              clear h11 H10 hz HY1 HY3 HY4 HY5 HZ1 HZ2
              go_wp2_with fail
              refine (cStep_nil _).mono ?_
              rintro e12 W12 ⟨rfl,rfl⟩
              go_wp2_with fail
              refine (cStop_nil _).mono ?_
              rintro e13 W13 ⟨rfl,rfl⟩
              go_wp2_with fail
              refine (H11.out.same fun O A cap hT=>used_calls _ hT.hA).mono ?_
              rintro e14 W14 ⟨rfl,h14⟩
              have H14:=Lib.hid h14
              clear h14 H11
              rw [HZB.out]
              go_wp2_with fail
              refine (H14.out.same fun O A cap hT=>count_calls root _ hT.hA).mono ?_
              rintro e15 W15 ⟨rfl,h15⟩
              have H15:=Lib.hid h15
              clear h15 H14
              rw [HZC.out]
              go_wp2_with fail
              refine (H15.out.read fun O A cap hT=>check_calls root rate ds _ true HZV.out HL10.out HR.out.txt50 _ hT.hA (HK.out.below H15.out.bel)).mono ?_
              rintro e16 W16 ⟨rfl,h16⟩
              have H16:=Lib.hid h16
              clear h16 H15
              go_wp2_with fail
              refine (H16.out.same fun O A cap hT=>cHeld_over z HZO.out _ hT).mono ?_
              rintro e17 W17 ⟨rfl,h17⟩
              have H17:=Lib.hid h17
              clear h17 H16
              go_wp2_with fail
              refine (H17.out.read fun O A cap hT=>cLeft_calls _ hT).mono ?_
              rintro e18 W18 ⟨rfl,h18⟩
              have H18:=Lib.hid h18
              clear h18 H17
              rw [HZL.out]
              go_wp2_with fail
              refine (cRoot_nil _).mono ?_
              rintro e21 W21 ⟨rfl,rfl⟩
              go_wp2_with fail
              refine (cLeft_nil _).mono ?_
              rintro e22 W22 ⟨rfl,rfl⟩
              go_wp2_with fail
              refine (cHeld_nil _).mono ?_
              rintro e23 W23 ⟨rfl,rfl⟩
              go_wp2_with fail
              go_ret
              exact ⟨rfl,H18.out.bel⟩
            · have d0:(R !=0)=true:=by simpa using h0
              have HCN1:=Lib.hid (HCN.out h0)
              clear h0
              have HCE:Hid (y.s.cntE R=0):=Lib.hid (by unfold Ar.cntE;rw [if_neg (by have:=HCN1.out;omega)])
              have HE:Hid (EndD s root ({y with s:=y.s.drop R}:Ct).stop):=Lib.hid (by
                have h:=HEN.out
                obtain ⟨a,b,c⟩:=h
                dsimp only at a b c
                rw [HRR.out] at b c
                have h:EndD s root ({y with s:=y.s.drop R}:Ct):=⟨a,b,c⟩
                rw [h.stop];exact h)
              go_wp2_with fail
              refine (HDD.out.same fun O A cap hT=>cRoot_calls _ hT).mono ?_
              rintro ee We ⟨rfl,he⟩
              have HEE:=Lib.hid he
              clear he HDD
              rw [HRR.out]
              go_wp2_with fail
              refine (HEE.out.write fun O hA=>drop_calls R _ hA).mono ?_
              rintro ef Wf ⟨rfl,hf⟩
              rw [HCE.out]
              have HT:=Lib.hid hf
              clear hf HEE
              obtain ⟨yy,hyy⟩: ∃yy,yy=({y with s:=y.s.drop R}:Ct):=⟨_,rfl⟩
              rw [←hyy] at HT HE
              clear hyy HY1 HRR HEN HCN1 HCE
              obtain ⟨z1,z2,u,y1,y3,y4,y5⟩:=HE.out.fin HI.out HWT.out HV.out HR.out H2.out H3.out
              have HZ1:=Lib.hid z1;have HZ2:=Lib.hid z2;have HY1:=Lib.hid y1;have HY3:=Lib.hid y3;have HY4:=Lib.hid (y4 H0.out);have HY5:=Lib.hid y5
              clear z1 z2 y1 y3 y4 y5
              go_wp2_with fail
              refine (HT.out.act fun O A cap hT hR=>(cStop_calls yy _ hT).mono fun e w' ⟨he,hD⟩=>⟨he,didr_of hR hD rfl⟩).mono ?_
              rintro e10 W10 ⟨rfl,h10⟩
              have H10:=Lib.hid h10
              clear h10 HT
              go_wp2_with fail
              refine (H10.out.write fun O hA=>work_calls _ _ HY1.out _ hA).mono ?_
              rintro e11 W11 ⟨rfl,h11⟩
              obtain ⟨z,hz⟩: ∃z:Ct,{yy.stop with s:=u.2}=z:=⟨_,rfl⟩
              rw [hz] at h11
              have HZL:Hid (z.left=0):=Lib.hid (by rw [←hz];exact HZ1.out)
              have HZO:Hid (z.over=true):=Lib.hid (by rw [←hz];rfl)
              have HZB:Hid (z.s.busy=s.busy):=Lib.hid (by rw [←hz];exact HY3.out)
              have HZC:Hid (z.s.cnt root=1):=Lib.hid (by rw [←hz];exact HY4.out)
              have HZV:Hid (vCheck z.s root rate ds=some true):=Lib.hid (by rw [←hz];exact HY5.out)
              have H11:=Lib.hid h11
              clear h11 H10 hz HY1 HY3 HY4 HY5 HZ1 HZ2
              go_wp2_with fail
              refine (cStep_nil _).mono ?_
              rintro e12 W12 ⟨rfl,rfl⟩
              go_wp2_with fail
              refine (cStop_nil _).mono ?_
              rintro e13 W13 ⟨rfl,rfl⟩
              go_wp2_with fail
              refine (H11.out.same fun O A cap hT=>used_calls _ hT.hA).mono ?_
              rintro e14 W14 ⟨rfl,h14⟩
              have H14:=Lib.hid h14
              clear h14 H11
              rw [HZB.out]
              go_wp2_with fail
              refine (H14.out.same fun O A cap hT=>count_calls root _ hT.hA).mono ?_
              rintro e15 W15 ⟨rfl,h15⟩
              have H15:=Lib.hid h15
              clear h15 H14
              rw [HZC.out]
              go_wp2_with fail
              refine (H15.out.read fun O A cap hT=>check_calls root rate ds _ true HZV.out HL10.out HR.out.txt50 _ hT.hA (HK.out.below H15.out.bel)).mono ?_
              rintro e16 W16 ⟨rfl,h16⟩
              have H16:=Lib.hid h16
              clear h16 H15
              go_wp2_with fail
              refine (H16.out.same fun O A cap hT=>cHeld_over z HZO.out _ hT).mono ?_
              rintro e17 W17 ⟨rfl,h17⟩
              have H17:=Lib.hid h17
              clear h17 H16
              go_wp2_with fail
              refine (H17.out.read fun O A cap hT=>cLeft_calls _ hT).mono ?_
              rintro e18 W18 ⟨rfl,h18⟩
              have H18:=Lib.hid h18
              clear h18 H17
              rw [HZL.out]
              go_wp2_with fail
              refine (cRoot_nil _).mono ?_
              rintro e21 W21 ⟨rfl,rfl⟩
              go_wp2_with fail
              refine (cLeft_nil _).mono ?_
              rintro e22 W22 ⟨rfl,rfl⟩
              go_wp2_with fail
              refine (cHeld_nil _).mono ?_
              rintro e23 W23 ⟨rfl,rfl⟩
              go_wp2_with fail
              go_ret
              exact ⟨rfl,H18.out.bel⟩
          · have HT0:=Lib.hid hz
            have HE0:Hid (EndD s root y.stop):=Lib.hid (by rw [hen.stop];exact hen)
            clear hz hen
            go_wp2_with fail
            refine (HX.out.1.act fun O A cap hT hR=>cStep_calls x HOK.out _ HY1.out _ hT hR).mono ?_
            rintro e9 W9 ⟨rfl,h9⟩
            have H9:=Lib.hid h9
            clear h9 HX
            go_wp2_with fail
            refine (H9.out.same fun O A cap hT=>cRoot_calls _ hT).mono ?_
            rintro ea Wa ⟨rfl,ha⟩
            have HT:=Lib.hid ha
            clear ha H9
            rw [HT0.out]
            obtain ⟨yy,hyy⟩: ∃yy,yy=y:=⟨_,rfl⟩
            rw [←hyy] at HT HE0
            have HE:=HE0
            clear HT0 hyy HY1 HE0
            obtain ⟨z1,z2,u,y1,y3,y4,y5⟩:=HE.out.fin HI.out HWT.out HV.out HR.out H2.out H3.out
            have HZ1:=Lib.hid z1;have HZ2:=Lib.hid z2;have HY1:=Lib.hid y1;have HY3:=Lib.hid y3;have HY4:=Lib.hid (y4 H0.out);have HY5:=Lib.hid y5
            clear z1 z2 y1 y3 y4 y5
            go_wp2_with fail
            refine (HT.out.act fun O A cap hT hR=>(cStop_calls yy _ hT).mono fun e w' ⟨he,hD⟩=>⟨he,didr_of hR hD rfl⟩).mono ?_
            rintro e10 W10 ⟨rfl,h10⟩
            have H10:=Lib.hid h10
            clear h10 HT
            go_wp2_with fail
            refine (H10.out.write fun O hA=>work_calls _ _ HY1.out _ hA).mono ?_
            rintro e11 W11 ⟨rfl,h11⟩
            obtain ⟨z,hz⟩: ∃z:Ct,{yy.stop with s:=u.2}=z:=⟨_,rfl⟩
            rw [hz] at h11
            have HZL:Hid (z.left=0):=Lib.hid (by rw [←hz];exact HZ1.out)
            have HZO:Hid (z.over=true):=Lib.hid (by rw [←hz];rfl)
            have HZB:Hid (z.s.busy=s.busy):=Lib.hid (by rw [←hz];exact HY3.out)
            have HZC:Hid (z.s.cnt root=1):=Lib.hid (by rw [←hz];exact HY4.out)
            have HZV:Hid (vCheck z.s root rate ds=some true):=Lib.hid (by rw [←hz];exact HY5.out)
            have H11:=Lib.hid h11
            clear h11 H10 hz HY1 HY3 HY4 HY5 HZ1 HZ2
            go_wp2_with fail
            refine (cStep_nil _).mono ?_
            rintro e12 W12 ⟨rfl,rfl⟩
            go_wp2_with fail
            refine (cStop_nil _).mono ?_
            rintro e13 W13 ⟨rfl,rfl⟩
            go_wp2_with fail
            refine (H11.out.same fun O A cap hT=>used_calls _ hT.hA).mono ?_
            rintro e14 W14 ⟨rfl,h14⟩
            have H14:=Lib.hid h14
            clear h14 H11
            rw [HZB.out]
            go_wp2_with fail
            refine (H14.out.same fun O A cap hT=>count_calls root _ hT.hA).mono ?_
            rintro e15 W15 ⟨rfl,h15⟩
            have H15:=Lib.hid h15
            clear h15 H14
            rw [HZC.out]
            go_wp2_with fail
            refine (H15.out.read fun O A cap hT=>check_calls root rate ds _ true HZV.out HL10.out HR.out.txt50 _ hT.hA (HK.out.below H15.out.bel)).mono ?_
            rintro e16 W16 ⟨rfl,h16⟩
            have H16:=Lib.hid h16
            clear h16 H15
            go_wp2_with fail
            refine (H16.out.same fun O A cap hT=>cHeld_over z HZO.out _ hT).mono ?_
            rintro e17 W17 ⟨rfl,h17⟩
            have H17:=Lib.hid h17
            clear h17 H16
            go_wp2_with fail
            refine (H17.out.read fun O A cap hT=>cLeft_calls _ hT).mono ?_
            rintro e18 W18 ⟨rfl,h18⟩
            have H18:=Lib.hid h18
            clear h18 H17
            rw [HZL.out]
            go_wp2_with fail
            refine (cRoot_nil _).mono ?_
            rintro e21 W21 ⟨rfl,rfl⟩
            go_wp2_with fail
            refine (cLeft_nil _).mono ?_
            rintro e22 W22 ⟨rfl,rfl⟩
            go_wp2_with fail
            refine (cHeld_nil _).mono ?_
            rintro e23 W23 ⟨rfl,rfl⟩
            go_wp2_with fail
            go_ret
            exact ⟨rfl,H18.out.bel⟩
        · obtain rfl:k=M:=by omega
          have n1:decide ((k:Int)<(k:Int))=false:=by simp
          have n2: ¬k<k:=by omega
          have HE:=Lib.hid HX.out.2.stop
          obtain ⟨z1,z2,u,y1,y3,y4,y5⟩:=HE.out.fin HI.out HWT.out HV.out HR.out H2.out H3.out
          have HZ1:=Lib.hid z1;have HZ2:=Lib.hid z2;have HY1:=Lib.hid y1;have HY3:=Lib.hid y3;have HY4:=Lib.hid (y4 H0.out);have HY5:=Lib.hid y5
          clear z1 z2 y1 y3 y4 y5 hk hkm
          go_wp2_with fail
          refine (HX.out.1.act fun O A cap hT hR=>(cStop_calls x _ hT).mono fun e w' ⟨he,hD⟩=>⟨he,didr_of hR hD rfl⟩).mono ?_
          rintro e10 W10 ⟨rfl,h10⟩
          have H10:=Lib.hid h10
          clear h10 HX
          go_wp2_with fail
          refine (H10.out.write fun O hA=>work_calls _ _ HY1.out _ hA).mono ?_
          rintro e11 W11 ⟨rfl,h11⟩
          obtain ⟨z,hz⟩: ∃z:Ct,{x.stop with s:=u.2}=z:=⟨_,rfl⟩
          rw [hz] at h11
          have HZL:Hid (z.left=0):=Lib.hid (by rw [←hz];exact HZ1.out)
          have HZO:Hid (z.over=true):=Lib.hid (by rw [←hz];rfl)
          have HZB:Hid (z.s.busy=s.busy):=Lib.hid (by rw [←hz];exact HY3.out)
          have HZC:Hid (z.s.cnt root=1):=Lib.hid (by rw [←hz];exact HY4.out)
          have HZV:Hid (vCheck z.s root rate ds=some true):=Lib.hid (by rw [←hz];exact HY5.out)
          have H11:=Lib.hid h11
          clear h11 H10 hz HY1 HY3 HY4 HY5 HZ1 HZ2
          go_wp2_with fail
          refine (cStep_nil _).mono ?_
          rintro e12 W12 ⟨rfl,rfl⟩
          go_wp2_with fail
          refine (cStop_nil _).mono ?_
          rintro e13 W13 ⟨rfl,rfl⟩
          go_wp2_with fail
          refine (H11.out.same fun O A cap hT=>used_calls _ hT.hA).mono ?_
          rintro e14 W14 ⟨rfl,h14⟩
          have H14:=Lib.hid h14
          clear h14 H11
          rw [HZB.out]
          go_wp2_with fail
          refine (H14.out.same fun O A cap hT=>count_calls root _ hT.hA).mono ?_
          rintro e15 W15 ⟨rfl,h15⟩
          have H15:=Lib.hid h15
          clear h15 H14
          rw [HZC.out]
          go_wp2_with fail
          refine (H15.out.read fun O A cap hT=>check_calls root rate ds _ true HZV.out HL10.out HR.out.txt50 _ hT.hA (HK.out.below H15.out.bel)).mono ?_
          rintro e16 W16 ⟨rfl,h16⟩
          have H16:=Lib.hid h16
          clear h16 H15
          go_wp2_with fail
          refine (H16.out.same fun O A cap hT=>cHeld_over z HZO.out _ hT).mono ?_
          rintro e17 W17 ⟨rfl,h17⟩
          have H17:=Lib.hid h17
          clear h17 H16
          go_wp2_with fail
          refine (H17.out.read fun O A cap hT=>cLeft_calls _ hT).mono ?_
          rintro e18 W18 ⟨rfl,h18⟩
          have H18:=Lib.hid h18
          clear h18 H17
          rw [HZL.out]
          go_wp2_with fail
          refine (cRoot_nil _).mono ?_
          rintro e21 W21 ⟨rfl,rfl⟩
          go_wp2_with fail
          refine (cLeft_nil _).mono ?_
          rintro e22 W22 ⟨rfl,rfl⟩
          go_wp2_with fail
          refine (cHeld_nil _).mono ?_
          rintro e23 W23 ⟨rfl,rfl⟩
          go_wp2_with fail
          go_ret
          exact ⟨rfl,H18.out.bel⟩
    · obtain ⟨u,w1,w2,w3, -,w5⟩:=hI.work (by simp) 1073741824
      have HBZ:Hid (u.2.busy=0):=Lib.hid (by
        have hz:=w2.busy_le (w5 (by omega)) (T:=[Tr.nil]) ⟨.nil,trivial⟩
        rw [w2.busy]
        simp [sizes,Tr.size] at hz
        rw [hz];rfl)
      have HW1:=Lib.hid w1
      have HS4:=Lib.hid hS
      clear hS hI hwt hsz w1 w2 w3 w5
      go_wp2_with fail
      refine (HS4.out.write fun O hA=>work_calls _ _ HW1.out _ hA).mono ?_
      rintro e5 W5 ⟨rfl,h5⟩
      have HS5:=Lib.hid h5
      clear h5
      go_wp2_with fail
      refine (HS5.out.same fun O hA=>used_calls _ hA).mono ?_
      rintro e6 W6 ⟨rfl,h6⟩
      rw [HBZ.out]
      have HS6:=Lib.hid h6
      clear h6
      go_wp2_with fail
      go_ret
      exact ⟨rfl,HS6.out.bel⟩
end
end Go.Proofs.YtmlmnmkhigjaaaaGreat

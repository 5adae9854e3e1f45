/- Part 3 of what CutStops needs: the walks of the program's functions, and plain facts. -/
import Derived.Test.YtmlmnmkhigjaaaaGreatCutStopsM2
set_option linter.unusedSimpArgs false
set_option linter.unusedVariables false
set_option linter.unnecessarySimpa false
namespace Go.Proofs.YtmlmnmkhigjaaaaGreat
set_option maxRecDepth 100000
set_option maxHeartbeats 8000000
section
open Go.RowKit
attribute [local go_sem ↓] Go.wp_at_zero Go.wp_at_succ
attribute [local go_sem] lt_s2 lt_s3 lt_s4
structure TB (w:World) (tb:Nat) (ap:Value) (t:Tb) (O:Nat→Prop):Prop where
  hA:AP w ap t.s O
  blk:w.heap[tb]? =some (.cells #[ap, .int .i64 t.e] 231 (0,0))
  no: ¬O tb
def DidT (tb:Nat) (ap:Value) (t':Tb) (O:Nat→Prop) (w w':World):Prop:= ∃O',TB w' tb ap t' O'∧Fr (oneX tb) O O' w w'
theorem did_gen {tb:Nat} {ap:Value} {t':Tb} {O:Nat→Prop} {w w':World} (h: ∀v,v=w'→DidT tb ap t' O w v):DidT tb ap t' O w w':=h w' rfl
variable {ap : Value} {O : Nat → Prop} {tb : Nat} {t : Tb}
theorem drop_take (s:Ar) (l:List Int) (i:Nat) (h:i<l.length):s.dropAll (l.take (i+1))=(s.dropAll (l.take i)).drop l[i]:=by
  unfold Ar.dropAll
  rw [List.take_succ_eq_append_getElem h,List.foldl_append];rfl
theorem tDrop_calls (l : List Int) (b off c : Nat) (cs : Array Value) (T : TypeId) (hl : l.length ≤ 100) (w : World) (hT : TB w tb ap t O) (hcs : w.heap[b]? = some (.cells cs T (0, 0))) (hcell : ∀ j (h : j < l.length), cs[off + j]? = some (.int .i64 l[j])) (ho : ¬ O b) (hb : b ≠ tb) (n : Nat) (hn : l.length = n) :
    Calls Tryz.prog 304 #[.pointer (some ⟨tb,0,none⟩), .slice (some ⟨b,off,none⟩) n c] w fun e w'=>e= .returned (.tuple #[])∧DidT tb ap (t.drops l) O w w':=by
  subst hn
  have Hcell:=Lib.hid hcell;clear hcell
  go_enter Tryz.func304,Tryz.ntmps304
  have hA:=hT.hA
  have kt:=hT.blk
  have o_kt:=hT.no
  have c_kt:=f3 kt;have l_ktw:=lt_of kt
  go_wp2_with fail
  go_loopw [8] (fun x wr=> ∃i:Nat,i≤l.length∧x= .int .i64 i∧wr.heap[b]? =some (.cells cs T (0,0))∧ ∃O',TB wr tb ap (t.drops (l.take i)) O'∧Fr (oneX tb) O O' w wr∧ ¬O' b) (fun x _=>l.length - (intOf x).toNat)
  case atStart=>exact ⟨0,Nat.zero_le _,rfl,hcs,O,hT,Fr.refl _ _ _,ho⟩
  case round=>
    obtain ⟨i,hi,rfl,hcs',O',hT',hF',ho'⟩:=hrel
    clear hA kt o_kt c_kt
    by_cases hlt:i<l.length
    · have d1:decide (i<l.length)=true:=by simpa using hlt
      have cb:=cells_of hcs'
      have ci:wr.cell? ⟨b,off+i,none⟩=some (.int .i64 l[i]):=by rw [cb];exact Hcell.out i hlt
      have ct:=cells_of hT'.blk
      have HT:=Lib.hid hT';have HF:=Lib.hid hF'
      have HD:Hid ((t.drops (l.take (i+1))).s=((t.drops (l.take i)).s).drop l[i]):=Lib.hid (drop_take t.s l i hlt)
      clear hT' hF' cb
      go_wp2_with fail
      refine (drop_calls _ _ HT.out.hA).mono ?_
      rintro e w1 ⟨rfl,O1,hA1,hf1⟩
      go_wp2_with fail
      go_roundw
      case rel=>
        refine ⟨i+1,by omega,by go_num,hf1.keep hcs' ho' (fun h=>h),O1,⟨?_,hf1.keep HT.out.blk HT.out.no (fun h=>h),hf1.not_own (lt_of HT.out.blk) HT.out.no⟩,HF.out.trans hf1.widen,hf1.not_own (lt_of hcs') ho'⟩
        rw [HD.out];exact hA1
      case measure=>simp [intOf];omega
    · have d1:decide (i<l.length)=false:=by simpa using hlt
      obtain rfl:i=l.length:=by omega
      rw [List.take_length] at hT'
      go_wp2_with fail
      go_end0
      exact ⟨rfl,O',hT',hF'⟩
theorem tKeep_calls (h : Int) (w : World) (hT : TB w tb ap t O) :
    Calls Tryz.prog 263 #[.pointer (some ⟨tb,0,none⟩), .int .i64 h] w fun e w'=>e= .returned (.int .i64 h)∧DidT tb ap (t.keep h) O w w':=by
  go_enter Tryz.func263,Tryz.ntmps263
  have hA:=hT.hA
  have kt:=hT.blk
  have o_kt:=hT.no
  have c_kt:=f3 kt;have l_ktw:=lt_of kt
  go_wp2_with fail
  refine cg fun V hV_V=> ?_
  have hF:=Fr.refl (oneX tb) O w
  refine nef1 hV_V hA hF kt ?_;clear hA hF kt c_kt;intro z_V hA hF kt c_kt
  clear hV_V
  refine wC (keep_calls _ _ hA) fun W O1 hA_W hf_W=> ?_
  refine wif1 hf_W hF kt o_kt ?_;clear hA hF kt o_kt c_kt hf_W;intro z_W hF kt c_kt o_kt;have hA:=hA_W;clear hA_W
  go_wp2_with fail
  go_ret
  refine ⟨rfl,O1,⟨hA,kt,o_kt⟩,hF⟩
theorem kids_cell (n:Nd) (j:Nat) (h:j<n.kids.length):n.cells[1+j]? =some (.int .i64 n.kids[j]):=by
  have:n.kids.length=4:=rfl
  rcases (show j=0∨j=1∨j=2∨j=3 by omega) with rfl|rfl|rfl|rfl<;>rfl
theorem tNode_calls (n : Nd) (hn : U64 n.a) (w : World) (hT : TB w tb ap t O) :
    Calls Tryz.prog 302 #[.pointer (some ⟨tb,0,none⟩),n.val] w fun e w'=>e= .returned (.int .i64 (t.node n).1)∧DidT tb ap (t.node n).2 O w w':=by
  by_cases he:t.e=0
  · have d1:(t.e==0)=true:=by simpa using he
    have e1:Hid (t.node n=((t.s.make n).1,⟨(t.s.make n).2.2.dropAll n.kids,(t.s.make n).2.1⟩)):=by
      show _=_
      unfold Tb.node Tb.nodeD;rw [if_pos he]
    clear he
    unfold Nd.val
    go_enter Tryz.func302,Tryz.ntmps302
    have hA:=hT.hA
    have kt:=hT.blk
    have o_kt:=hT.no
    have c_kt:=f3 kt;have l_ktw:=lt_of kt
    go_wp2_with fail
    refine wg fun V hV_V=> ?_
    have hF:=Fr.refl ((oneX tb)) O w
    refine nnf1 hV_V hA hF kt ?_;clear hA hF kt c_kt;intro hn_V z_V hA hF kt c_kt
    obtain ⟨kn,c_kn,o_kn,l_knV⟩:=nN hn_V hV_V (w.heap.size)
    clear hV_V hn_V
    refine dr (fun v=>(v.cell? ⟨tb,0,none⟩=V.cell? ⟨tb,0,none⟩)∧Sm v V (w.heap.size)∧(V.heap.size≤v.heap.size)∧True) ⟨rfl,fun _=>rfl,Nat.le_refl _,trivial⟩ fun Vd hV_Vd hHeld=> ?_
    have v_kt:=c_kt.1;have v_kn:=c_kn.1
    refine nef2 hV_Vd hA hF kt kn ?_;clear hA hF kt kn c_kt c_kn;intro z_Vd hA hF kt c_kt kn c_kn
    clear hV_Vd
    refine ta 0 hHeld ?_
    refine ta 1 hHeld ?_
    refine ta 2 hHeld ?_
    refine ta 3 hHeld ?_
    refine ta 4 hHeld ?_
    refine ta 5 hHeld ?_
    refine rd 6 rfl fun K hK=> ?_
    go_simp
    try simp only [IntWalk.i64_left]
    refine wC (make_calls n hn _ hA) fun W O1 hA_W hf_W=> ?_
    refine wif2 hf_W hF kt o_kt kn o_kn ?_;clear hA hF kt o_kt kn o_kn c_kt c_kn hf_W;intro z_W hF kt c_kt o_kt kn c_kn o_kn;have hA:=hA_W;clear hA_W
    refine ho hK ⟨vo c_kt v_kt 0,vv c_kn v_kn,by omega,trivial⟩ fun hHeld=> ?_
    clear hK K
    refine ta 7 hHeld ?_
    refine ta 8 hHeld ?_
    refine ta 9 hHeld ?_
    refine rd 10 rfl fun K hK=> ?_
    go_simp
    refine ho hK hHeld fun hHeld=> ?_
    clear hK K
    refine ta 11 hHeld ?_
    refine ta 12 hHeld ?_
    refine rd 13 rfl fun K hK=> ?_
    go_simp
    refine ga (K:=K) fun D hV_D=> ?_
    refine nef2 hV_D hA hF kt kn ?_;clear hA hF kt kn c_kt c_kn;intro z_D hA hF kt c_kt kn c_kn
    clear hV_D
    refine ho hK ⟨vo c_kt v_kt 0,vv c_kn v_kn,by omega,trivial⟩ fun hHeld=> ?_
    clear hK K
    refine wd ?_
    go_wp2_with fail
    refine cg fun D1 hV_D1=> ?_
    refine nef2 hV_D1 hA hF kt kn ?_;clear hA hF kt kn c_kt c_kn;intro z_D1 hA hF kt c_kt kn c_kn
    clear hV_D1
    refine tC (tDrop_calls (t:=⟨(t.s.make n).2.2,(t.s.make n).2.1⟩) n.kids w.heap.size 1 4 _ _ (by simp [Nd.kids]) _ ⟨hA,kt,o_kt⟩ kn (kids_cell n) o_kn (by omega) 4 rfl) fun W2 O2 hT hf=> ?_
    refine ti1 hT.hA hT.blk hT.no hf hF kn o_kn ?_;clear hA hF kt c_kt o_kt kn o_kn c_kn hT hf;intro z_W2 hA hF kt c_kt o_kt kn c_kn o_kn
    go_wp2_with fail
    go_ret
    refine ⟨by rw [e1.out];rfl,?_⟩
    rw [e1.out]
    exact ⟨O2,⟨hA,kt,o_kt⟩,hF⟩
  · have d1:(t.e==0)=false:=by simpa using he
    have e1:Hid (t.node n=(0,t.drops n.kids)):=by
      show _=_
      unfold Tb.node Tb.nodeD;rw [if_neg he]
    clear he
    unfold Nd.val
    go_enter Tryz.func302,Tryz.ntmps302
    have hA:=hT.hA
    have kt:=hT.blk
    have o_kt:=hT.no
    have c_kt:=f3 kt;have l_ktw:=lt_of kt
    go_wp2_with fail
    refine cg fun D1 hV_D1=> ?_
    have hF:=Fr.refl ((oneX tb)) O w
    refine nnf1 hV_D1 hA hF kt ?_;clear hA hF kt c_kt;intro hn_D1 z_D1 hA hF kt c_kt
    obtain ⟨kn,c_kn,o_kn,l_knD1⟩:=nN hn_D1 hV_D1 (w.heap.size)
    clear hV_D1 hn_D1
    refine tC (tDrop_calls n.kids w.heap.size 1 4 _ _ (by simp [Nd.kids]) _ ⟨hA,kt,o_kt⟩ kn (kids_cell n) o_kn (by omega) 4 rfl) fun W2 O2 hT hf=> ?_
    refine ti1 hT.hA hT.blk hT.no hf hF kn o_kn ?_;clear hA hF kt c_kt o_kt kn o_kn c_kn hT hf;intro z_W2 hA hF kt c_kt o_kt kn c_kn o_kn
    go_wp2_with fail
    go_ret
    refine ⟨by rw [e1.out];rfl,?_⟩
    rw [e1.out]
    exact ⟨O2,⟨hA,kt,o_kt⟩,hF⟩
theorem tLeaf_calls (l : List Bool) (hl : l.length ≤ 64) (w : World) (hT : TB w tb ap t O) :
    Calls Tryz.prog 258 #[.pointer (some ⟨tb,0,none⟩), .agg #[.int .u64 (pack l:Int), .int .i64 (l.length:Int)]] w fun e w'=>e= .returned (.int .i64 (t.leaf l).1)∧DidT tb ap (t.leaf l).2 O w w':=by
  have hp:U64 (pack l:Int):=by
    have:=pack_lt64 hl
    exact ⟨by omega,by omega⟩
  have hu:IntKind.u64.wrap (l.length:Int)=(l.length:Int):=wrap_u64 (by omega) (by omega)
  have hu:=Lib.hid hu
  go_enter Tryz.func258,Tryz.ntmps258
  have hA:=hT.hA
  have kt:=hT.blk
  have o_kt:=hT.no
  have c_kt:=f3 kt;have l_ktw:=lt_of kt
  go_wp2_with fail
  refine cg fun D1 hV_D1=> ?_
  have hF:=Fr.refl ((oneX tb)) O w
  refine nnf1 hV_D1 hA hF kt ?_;clear hA hF kt c_kt;intro hn_D1 z_D1 hA hF kt c_kt
  obtain ⟨kn,c_kn,o_kn,l_knD1⟩:=nN hn_D1 hV_D1 (w.heap.size)
  clear hV_D1 hn_D1
  refine tC (tNode_calls ⟨1,0,0,0,0,pack l,l.length⟩ hp _ ⟨hA,kt,o_kt⟩) fun W2 O2 hT hf=> ?_
  refine ti1 hT.hA hT.blk hT.no hf hF kn o_kn ?_;clear hA hF kt c_kt o_kt kn o_kn c_kn hT hf;intro z_W2 hA hF kt c_kt o_kt kn c_kn o_kn
  go_wp2_with fail
  go_ret
  exact ⟨rfl,O2,⟨hA,kt,o_kt⟩,hF⟩
theorem tPair_calls (x y : Int) (w : World) (hT : TB w tb ap t O) :
    Calls Tryz.prog 305 #[.pointer (some ⟨tb,0,none⟩), .int .i64 x, .int .i64 y] w fun e w'=>e= .returned (.int .i64 (t.pair x y).1)∧DidT tb ap (t.pair x y).2 O w w':=by
  go_enter Tryz.func305,Tryz.ntmps305
  have hA:=hT.hA
  have kt:=hT.blk
  have o_kt:=hT.no
  have c_kt:=f3 kt;have l_ktw:=lt_of kt
  go_wp2_with fail
  refine wg fun V hV_V=> ?_
  have hF:=Fr.refl ((oneX tb)) O w
  refine nnf1 hV_V hA hF kt ?_;clear hA hF kt c_kt;intro hn_V z_V hA hF kt c_kt
  obtain ⟨kn,c_kn,o_kn,l_knV⟩:=nN hn_V hV_V (w.heap.size)
  clear hV_V hn_V
  refine dr (fun v=>Sm v V (tb)∧(V.heap.size≤v.heap.size)∧AP v ap t.s O) ⟨fun _=>rfl,Nat.le_refl _,hA.drew⟩ fun Vd hV_Vd hHeld=> ?_
  have v_kt:=c_kt.1
  refine nef2 hV_Vd hA hF kt kn ?_;clear hA hF kt kn c_kt c_kn;intro z_Vd hA hF kt c_kt kn c_kn
  clear hV_Vd
  refine ta 0 hHeld ?_
  refine ta 1 hHeld ?_
  refine ta 2 hHeld ?_
  refine ta 3 hHeld ?_
  refine ta 4 hHeld ?_
  refine ta 6 hHeld ?_
  refine ta 7 hHeld ?_
  refine ta 8 hHeld ?_
  refine ta 9 hHeld ?_
  refine ta 10 hHeld ?_
  refine rd 5 rfl fun K hK=> ?_
  go_simp
  try simp only [IntWalk.i64_left]
  refine rC (bLen_calls _ _ hA) fun W1 hb_W1=> ?_
  refine bef2 hb_W1 hA hF kt kn ?_;clear hb_W1 hA hF kt kn c_kt c_kn;intro z_W1 hA hF kt c_kt kn c_kn
  refine ho hK ⟨vv c_kt v_kt,by omega,hA⟩ fun hHeld=> ?_
  clear hK K
  refine rd 11 rfl fun K hK=> ?_
  go_simp
  try simp only [IntWalk.i64_left]
  refine rC (bLen_calls _ _ hA) fun W2 hb_W2=> ?_
  refine bef2 hb_W2 hA hF kt kn ?_;clear hb_W2 hA hF kt kn c_kt c_kn;intro z_W2 hA hF kt c_kt kn c_kn
  refine ho hK ⟨vv c_kt v_kt,by omega,hA⟩ fun hHeld=> ?_
  clear hK K
  refine ta 12 hHeld ?_
  refine ta 13 hHeld ?_
  refine ta 14 hHeld ?_
  refine rd 15 rfl fun K hK=> ?_
  go_simp
  refine ga (K:=K) fun D hV_D=> ?_
  refine nef2 hV_D hA hF kt kn ?_;clear hA hF kt kn c_kt c_kn;intro z_D hA hF kt c_kt kn c_kn
  clear hV_D
  refine ho hK ⟨vv c_kt v_kt,by omega,hA⟩ fun hHeld=> ?_
  clear hK K
  refine wd ?_
  go_wp2_with fail
  refine wg fun V2 hV_V2=> ?_
  refine nef2 hV_V2 hA hF kt kn ?_;clear hA hF kt kn c_kt c_kn;intro z_V2 hA hF kt c_kt kn c_kn
  clear hV_V2
  refine dr (fun v=>Sm v V2 (tb)∧(V2.heap.size≤v.heap.size)∧AP v ap t.s O) ⟨fun _=>rfl,Nat.le_refl _,hA.drew⟩ fun V2d hV_V2d hHeld=> ?_
  have v_kt:=c_kt.1
  refine nef2 hV_V2d hA hF kt kn ?_;clear hA hF kt kn c_kt c_kn;intro z_V2d hA hF kt c_kt kn c_kn
  clear hV_V2d
  refine ta 0 hHeld ?_
  refine ta 1 hHeld ?_
  refine ta 2 hHeld ?_
  refine ta 3 hHeld ?_
  refine ta 4 hHeld ?_
  refine ta 6 hHeld ?_
  refine ta 7 hHeld ?_
  refine ta 8 hHeld ?_
  refine ta 9 hHeld ?_
  refine ta 10 hHeld ?_
  refine rd 5 rfl fun K hK=> ?_
  go_simp
  try simp only [IntWalk.i64_left]
  refine rC (bOnes_calls _ _ hA) fun W3 hb_W3=> ?_
  refine bef2 hb_W3 hA hF kt kn ?_;clear hb_W3 hA hF kt kn c_kt c_kn;intro z_W3 hA hF kt c_kt kn c_kn
  refine ho hK ⟨vv c_kt v_kt,by omega,hA⟩ fun hHeld=> ?_
  clear hK K
  refine rd 11 rfl fun K hK=> ?_
  go_simp
  try simp only [IntWalk.i64_left]
  refine rC (bOnes_calls _ _ hA) fun W4 hb_W4=> ?_
  refine bef2 hb_W4 hA hF kt kn ?_;clear hb_W4 hA hF kt kn c_kt c_kn;intro z_W4 hA hF kt c_kt kn c_kn
  refine ho hK ⟨vv c_kt v_kt,by omega,hA⟩ fun hHeld=> ?_
  clear hK K
  refine ta 12 hHeld ?_
  refine ta 13 hHeld ?_
  refine ta 14 hHeld ?_
  refine rd 15 rfl fun K hK=> ?_
  go_simp
  refine ga (K:=K) fun D2 hV_D2=> ?_
  refine nef2 hV_D2 hA hF kt kn ?_;clear hA hF kt kn c_kt c_kn;intro z_D2 hA hF kt c_kt kn c_kn
  clear hV_D2
  refine ho hK ⟨vv c_kt v_kt,by omega,hA⟩ fun hHeld=> ?_
  clear hK K
  refine wd ?_
  go_wp2_with fail
  refine cg fun V3 hV_V3=> ?_
  refine nef2 hV_V3 hA hF kt kn ?_;clear hA hF kt kn c_kt c_kn;intro z_V3 hA hF kt c_kt kn c_kn
  clear hV_V3
  have hu:U64 (u64 (wrap64 (bLen t.s x+bLen t.s y))):=U64.u64 _
  refine tC (tNode_calls ⟨2,x,y,0,0,u64 (wrap64 (bLen t.s x+bLen t.s y)),u64 (wrap64 (bOnes t.s x+bOnes t.s y))⟩ hu _ ⟨hA,kt,o_kt⟩) fun W5 O2 hT hf=> ?_
  refine ti1 hT.hA hT.blk hT.no hf hF kn o_kn ?_;clear hA hF kt c_kt o_kt kn o_kn c_kn hT hf;intro z_W5 hA hF kt c_kt o_kt kn c_kn o_kn
  go_wp2_with fail
  go_ret
  exact ⟨rfl,O2,⟨hA,kt,o_kt⟩,hF⟩
theorem two_cell (x y:Int) (j:Nat) (h:j<[x,y].length):(#[Value.int .i64 x,Value.int .i64 y]:Array Value)[0+j]? =some (.int .i64 [x,y][j]):=by
  have:[x,y].length=2:=rfl
  rcases (show j=0∨j=1 by omega) with rfl|rfl<;>rfl
theorem one_cell (x:Int) (j:Nat) (h:j<[x].length):(#[Value.int .i64 x]:Array Value)[0+j]? =some (.int .i64 [x][j]):=by
  have:[x].length=1:=rfl
  rcases (show j=0 by omega) with rfl;rfl
theorem tPairOr_calls (x y : Int) (w : World) (hT : TB w tb ap t O) :
    Calls Tryz.prog 261 #[.pointer (some ⟨tb,0,none⟩), .int .i64 x, .int .i64 y] w fun e w'=>e= .returned (.int .i64 (t.pairOr x y).1)∧DidT tb ap (t.pairOr x y).2 O w w':=by
  by_cases he:t.e=0
  · have d1:(t.e !=0)=false:=by simp [he]
    have e1:Hid (t.pairOr x y=t.pair x y):=by show _=_;unfold Tb.pairOr;rw [if_pos he]
    clear he
    go_enter Tryz.func261,Tryz.ntmps261
    have hA:=hT.hA
    have kt:=hT.blk
    have o_kt:=hT.no
    have c_kt:=f3 kt;have l_ktw:=lt_of kt
    go_wp2_with fail
    refine cg fun V hV_V=> ?_
    have hF:=Fr.refl ((oneX tb)) O w
    refine nef1 hV_V hA hF kt ?_;clear hA hF kt c_kt;intro z_V hA hF kt c_kt
    clear hV_V
    refine tC (tPair_calls x y _ ⟨hA,kt,o_kt⟩) fun W1 O1 hT hf=> ?_
    refine ti0 hT.hA hT.blk hT.no hf hF ?_;clear hA hF kt c_kt o_kt hT hf;intro z_W1 hA hF kt c_kt o_kt
    go_wp2_with fail
    go_ret
    rw [e1.out]
    exact ⟨rfl,O1,⟨hA,kt,o_kt⟩,hF⟩
  · have d1:(t.e !=0)=true:=by simp [he]
    have e1:Hid (t.pairOr x y=(0,t.drops [x,y])):=by show _=_;unfold Tb.pairOr;rw [if_neg he]
    clear he
    go_enter Tryz.func261,Tryz.ntmps261
    have hA:=hT.hA
    have kt:=hT.blk
    have o_kt:=hT.no
    have c_kt:=f3 kt;have l_ktw:=lt_of kt
    go_wp2_with fail
    refine cg fun V hV_V=> ?_
    have hF:=Fr.refl ((oneX tb)) O w
    refine nnf1 hV_V hA hF kt ?_;clear hA hF kt c_kt;intro hn_V z_V hA hF kt c_kt
    obtain ⟨kl,c_kl,o_kl,l_klV⟩:=nN hn_V hV_V (w.heap.size)
    clear hV_V hn_V
    refine tC (tDrop_calls [x,y] w.heap.size 0 2 _ _ (by simp) _ ⟨hA,kt,o_kt⟩ kl (two_cell x y) o_kl (by omega) 2 rfl) fun W1 O1 hT hf=> ?_
    refine ti1 hT.hA hT.blk hT.no hf hF kl o_kl ?_;clear hA hF kt c_kt o_kt kl o_kl c_kl hT hf;intro z_W1 hA hF kt c_kt o_kt kl c_kl o_kl
    go_wp2_with fail
    go_ret
    rw [e1.out]
    exact ⟨rfl,O1,⟨hA,kt,o_kt⟩,hF⟩
theorem tTold_calls (h : Int) (w : World) (hT : TB w tb ap t O) :
    Calls Tryz.prog 190 #[.pointer (some ⟨tb,0,none⟩), .int .i64 h] w fun e w'=>e= .returned (.tuple #[.int .i64 (Tb.told (h,t)).1, .int .i64 (Tb.told (h,t)).2.1])∧DidT tb ap t O w w':=by
  by_cases he:t.e=0
  · have d1:(t.e !=0)=false:=by simp [he]
    have e1:Hid (Tb.told (h,t)=(h,0,t.s)):=by show _=_;unfold Tb.told;rw [if_pos he]
    clear he
    go_enter Tryz.func190,Tryz.ntmps190
    have hA:=hT.hA
    have kt:=hT.blk
    have o_kt:=hT.no
    have c_kt:=f3 kt;have l_ktw:=lt_of kt
    go_wp2_with fail
    go_ret2
    rw [e1.out]
    exact ⟨rfl,O,hT,Fr.refl _ _ _⟩
  · have d1:(t.e !=0)=true:=by simp [he]
    have e1:Hid (Tb.told (h,t)=(0,t.e,t.s)):=by show _=_;unfold Tb.told;rw [if_neg he]
    clear he
    go_enter Tryz.func190,Tryz.ntmps190
    have hA:=hT.hA
    have kt:=hT.blk
    have o_kt:=hT.no
    have c_kt:=f3 kt;have l_ktw:=lt_of kt
    go_wp2_with fail
    refine wg fun V hV_V=> ?_
    have hF:=Fr.refl ((oneX tb)) O w
    refine nef1 hV_V hA hF kt ?_;clear hA hF kt c_kt;intro z_V hA hF kt c_kt
    clear hV_V
    refine dr (fun v=>Sm v V (tb)∧(V.heap.size≤v.heap.size)∧AP v ap t.s O) ⟨fun _=>rfl,Nat.le_refl _,hA.drew⟩ fun Vd hV_Vd hHeld=> ?_
    have v_kt:=c_kt.1
    refine nef1 hV_Vd hA hF kt ?_;clear hA hF kt c_kt;intro z_Vd hA hF kt c_kt
    clear hV_Vd
    refine ta 0 hHeld ?_
    refine ta 1 hHeld ?_
    refine ta 2 hHeld ?_
    refine ta 3 hHeld ?_
    refine rd 4 rfl fun K hK=> ?_
    go_simp
    refine ho hK hHeld fun hHeld=> ?_
    clear hK K
    refine rd 5 rfl fun K hK=> ?_
    go_simp
    refine ho hK hHeld fun hHeld=> ?_
    clear hK K
    refine wd ?_
    go_wp2_with fail
    go_ret2
    rw [e1.out]
    exact ⟨rfl,O,⟨hA,kt,o_kt⟩,hF⟩
theorem tHigh_calls : ∀ (k : Nat) (h r : Int) (w : World), bHigh k t.s h = some r → TB w tb ap t O →
    Calls Tryz.prog 306 #[.pointer (some ⟨tb,0,none⟩), .int .i64 h] w fun e w'=>e= .returned (.int .i64 r)∧Below w.heap.size w w'
  | 0,h,r,w,hr,hT=>by cases hr
  | k+1,h,r,w,hr,hT=>by
    have ih:=Lib.hid (tHigh_calls k)
    unfold bHigh at hr
    cases h1:bIs t.s h with
    | false=>
      rw [h1,if_neg (by decide)] at hr
      cases hr
      go_enter Tryz.func306,Tryz.ntmps306
      have hA:=hT.hA
      have kt:=hT.blk
      have o_kt:=hT.no
      have c_kt:=f3 kt;have l_ktw:=lt_of kt
      go_wp2_with fail
      refine cg fun V hV_V=> ?_
      have hB:=Below.refl w.heap.size w
      refine nea1 hV_V hA hB kt ?_;clear hA hB kt c_kt;intro z_V hA hB kt c_kt
      clear hV_V
      refine rC (bRow_calls _ _ hA) fun W1 hb_W1=> ?_
      refine bea1 hb_W1 hA hB kt ?_;clear hb_W1 hA hB kt c_kt;intro z_W1 hA hB kt c_kt
      unfold Nd.val
      go_wp2_with fail
      go_ret
      exact ⟨rfl,bel⟩
    | true=>
      rw [h1,if_pos rfl] at hr
      by_cases h2:(t.s.get h).tag=1
      · have d1:((t.s.get h).tag==1)=true:=by simpa using h2
        rw [if_pos h2] at hr
        cases hr
        clear h2
        go_enter Tryz.func306,Tryz.ntmps306
        have hA:=hT.hA
        have kt:=hT.blk
        have o_kt:=hT.no
        have c_kt:=f3 kt;have l_ktw:=lt_of kt
        go_wp2_with fail
        refine cg fun V hV_V=> ?_
        have hB:=Below.refl w.heap.size w
        refine nea1 hV_V hA hB kt ?_;clear hA hB kt c_kt;intro z_V hA hB kt c_kt
        clear hV_V
        refine rC (bRow_calls _ _ hA) fun W1 hb_W1=> ?_
        refine bea1 hb_W1 hA hB kt ?_;clear hb_W1 hA hB kt c_kt;intro z_W1 hA hB kt c_kt
        unfold Nd.val
        go_wp2_with fail
        go_ret
        exact ⟨rfl,bel⟩
      · have d1:((t.s.get h).tag==1)=false:=by simpa using h2
        rw [if_neg h2] at hr
        clear h2
        obtain ⟨p,hp,hr⟩:=Option.bind_eq_some_iff.1 hr
        obtain ⟨q,hq,hr⟩:=Option.bind_eq_some_iff.1 hr
        have hr:=Option.some.inj hr
        have Hp:=Lib.hid hp;have Hq:=Lib.hid hq;have Hr:=Lib.hid hr
        clear hp hq hr
        by_cases hpq:p<q
        all_goals
          go_enter Tryz.func306,Tryz.ntmps306
          have hA:=hT.hA
          have kt:=hT.blk
          have o_kt:=hT.no
          have c_kt:=f3 kt;have l_ktw:=lt_of kt
          go_wp2_with fail
          refine cg fun V hV_V=> ?_
          have hB:=Below.refl w.heap.size w
          refine nea1 hV_V hA hB kt ?_;clear hA hB kt c_kt;intro z_V hA hB kt c_kt
          clear hV_V
          refine rC (bRow_calls _ _ hA) fun W1 hb_W1=> ?_
          refine bea1 hb_W1 hA hB kt ?_;clear hb_W1 hA hB kt c_kt;intro z_W1 hA hB kt c_kt
          unfold Nd.val
          go_wp2_with fail
          refine wg fun V1 hV_V1=> ?_
          refine nna1 hV_V1 hA hB kt ?_;clear hA hB kt c_kt;intro hn_V1 z_V1 hA hB kt c_kt
          obtain ⟨kn,c_kn,o_kn,l_knV1⟩:=nN hn_V1 hV_V1 (W1.heap.size)
          clear hV_V1 hn_V1
          refine dr (fun v=>Sm v V1 (tb)∧Sm v V1 (W1.heap.size)∧(V1.heap.size≤v.heap.size)∧AP v ap t.s O) ⟨fun _=>rfl,fun _=>rfl,Nat.le_refl _,hA.drew⟩ fun V1d hV_V1d hHeld=> ?_
          have v_kt:=c_kt.1;have v_kn:=c_kn.1
          refine nea2 hV_V1d hA hB kt kn ?_;clear hA hB kt kn c_kt c_kn;intro z_V1d hA hB kt c_kt kn c_kn
          clear hV_V1d
          refine ta 0 hHeld ?_
          refine ta 1 hHeld ?_
          refine ta 2 hHeld ?_
          refine ta 3 hHeld ?_
          refine ta 5 hHeld ?_
          refine ta 6 hHeld ?_
          refine ta 7 hHeld ?_
          refine ta 8 hHeld ?_
          refine rd 4 rfl fun K hK=> ?_
          go_simp
          try simp only [IntWalk.i64_left]
          refine rC (ih.out _ _ _ Hp.out ⟨hA,kt,o_kt⟩) fun W2 hb_W2=> ?_
          refine bea2 hb_W2 hA hB kt kn ?_;clear hb_W2 hA hB kt kn c_kt c_kn;intro z_W2 hA hB kt c_kt kn c_kn
          refine ho hK ⟨vv c_kt v_kt,vv c_kn v_kn,by omega,hA⟩ fun hHeld=> ?_
          clear hK K
          refine rd 9 rfl fun K hK=> ?_
          go_simp
          try simp only [IntWalk.i64_left]
          refine rC (ih.out _ _ _ Hq.out ⟨hA,kt,o_kt⟩) fun W3 hb_W3=> ?_
          refine bea2 hb_W3 hA hB kt kn ?_;clear hb_W3 hA hB kt kn c_kt c_kn;intro z_W3 hA hB kt c_kt kn c_kn
          refine ho hK ⟨vv c_kt v_kt,vv c_kn v_kn,by omega,hA⟩ fun hHeld=> ?_
          clear hK K
          refine ta 10 hHeld ?_
          refine ta 11 hHeld ?_
          refine rd 12 rfl fun K hK=> ?_
          go_simp
          refine ho hK hHeld fun hHeld=> ?_
          clear hK K
          refine wd ?_
          go_wp2_with fail
          go_ret
          refine ⟨?_,bel⟩
          rw [←Hr.out]
          unfold imax
          first|rw [if_pos hpq]|rw [if_neg (Int.not_lt.2 hpq)]
          simp only [IntWalk.i64_left]
          rfl
theorem tOpen_calls (h : Int) (w : World) (hT : TB w tb ap t O) :
    Calls Tryz.prog 307 #[.pointer (some ⟨tb,0,none⟩), .int .i64 h] w fun e w'=>e= .returned (.tuple #[.int .i64 (t.s.get h).k0, .int .i64 (t.s.get h).k1])∧DidT tb ap (t.opened h) O w w':=by
  go_enter Tryz.func307,Tryz.ntmps307
  have hA:=hT.hA
  have kt:=hT.blk
  have o_kt:=hT.no
  have c_kt:=f3 kt;have l_ktw:=lt_of kt
  go_wp2_with fail
  refine cg fun V hV_V=> ?_
  have hF:=Fr.refl ((oneX tb)) O w
  refine nef1 hV_V hA hF kt ?_;clear hA hF kt c_kt;intro z_V hA hF kt c_kt
  clear hV_V
  refine rC (bRow_calls _ _ hA) fun W1 hb_W1=> ?_
  refine bef1 hb_W1 hA hF kt ?_;clear hb_W1 hA hF kt c_kt;intro z_W1 hA hF kt c_kt
  unfold Nd.val
  go_wp2_with fail
  refine wg fun V1 hV_V1=> ?_
  refine nnf1 hV_V1 hA hF kt ?_;clear hA hF kt c_kt;intro hn_V1 z_V1 hA hF kt c_kt
  obtain ⟨kn,c_kn,o_kn,l_knV1⟩:=nN hn_V1 hV_V1 (W1.heap.size)
  clear hV_V1 hn_V1
  refine dr (fun v=>Sm v V1 (tb)∧Sm v V1 (W1.heap.size)∧(V1.heap.size≤v.heap.size)∧True) ⟨fun _=>rfl,fun _=>rfl,Nat.le_refl _,trivial⟩ fun V1d hV_V1d hHeld=> ?_
  have v_kt:=c_kt.1;have v_kn:=c_kn.1
  refine nef2 hV_V1d hA hF kt kn ?_;clear hA hF kt kn c_kt c_kn;intro z_V1d hA hF kt c_kt kn c_kn
  clear hV_V1d
  refine ta 0 hHeld ?_
  refine ta 1 hHeld ?_
  refine ta 2 hHeld ?_
  refine ta 3 hHeld ?_
  refine ta 5 hHeld ?_
  refine ta 6 hHeld ?_
  refine ta 7 hHeld ?_
  refine ta 8 hHeld ?_
  refine rd 4 rfl fun K hK=> ?_
  go_simp
  try simp only [IntWalk.i64_left]
  refine tC (tKeep_calls (t:=t) (t.s.get h).k0 _ ⟨hA,kt,o_kt⟩) fun W2 O1 hT hf=> ?_
  refine ti1 hT.hA hT.blk hT.no hf hF kn o_kn ?_;clear hA hF kt c_kt o_kt kn o_kn c_kn hT hf;intro z_W2 hA hF kt c_kt o_kt kn c_kn o_kn
  refine ho hK ⟨vv c_kt v_kt,vv c_kn v_kn,by omega,trivial⟩ fun hHeld=> ?_
  clear hK K
  refine rd 9 rfl fun K hK=> ?_
  go_simp
  try simp only [IntWalk.i64_left]
  refine tC (tKeep_calls (t:=t.keep (t.s.get h).k0) (t.s.get h).k1 _ ⟨hA,kt,o_kt⟩) fun W3 O2 hT hf=> ?_
  refine ti1 hT.hA hT.blk hT.no hf hF kn o_kn ?_;clear hA hF kt c_kt o_kt kn o_kn c_kn hT hf;intro z_W3 hA hF kt c_kt o_kt kn c_kn o_kn
  refine ho hK ⟨vv c_kt v_kt,vv c_kn v_kn,by omega,trivial⟩ fun hHeld=> ?_
  clear hK K
  refine rd 10 rfl fun K hK=> ?_
  go_simp
  refine ho hK hHeld fun hHeld=> ?_
  clear hK K
  refine rd 11 rfl fun K hK=> ?_
  go_simp
  refine ho hK hHeld fun hHeld=> ?_
  clear hK K
  refine wd ?_
  go_wp2_with fail
  refine cg fun V4 hV_V4=> ?_
  refine nnf2 hV_V4 hA hF kt kn ?_;clear hA hF kt kn c_kt c_kn;intro hn_V4 z_V4 hA hF kt c_kt kn c_kn
  obtain ⟨kl,c_kl,o_kl,l_klV4⟩:=nN hn_V4 hV_V4 (W3.heap.size)
  clear hV_V4 hn_V4
  refine tC (tDrop_calls (t:=(t.keep (t.s.get h).k0).keep (t.s.get h).k1) [h] W3.heap.size 0 1 _ _ (by simp) _ ⟨hA,kt,o_kt⟩ kl (one_cell h) o_kl (by omega) 1 rfl) fun W5 O3 hT hf=> ?_
  refine ti2 hT.hA hT.blk hT.no hf hF kn o_kn kl o_kl ?_;clear hA hF kt c_kt o_kt kn o_kn kl o_kl c_kn c_kl hT hf;intro z_W5 hA hF kt c_kt o_kt kn c_kn o_kn kl c_kl o_kl
  go_wp2_with fail
  go_ret2
  exact ⟨rfl,O3,⟨hA,kt,o_kt⟩,hF⟩
end
section
open Go.RowKit
attribute [local go_sem ↓] Go.wp_at_zero Go.wp_at_succ
attribute [local go_sem] lt_s2 lt_s3 lt_s4
variable {ap : Value} {O : Nat → Prop} {tb : Nat} {t : Tb}
theorem tFork_calls (x y : Int) (r : Int × Tb) (hr : t.fork x y = some r) (w : World) (hT : TB w tb ap t O) :
    Calls Tryz.prog 262 #[.pointer (some ⟨tb,0,none⟩), .int .i64 x, .int .i64 y] w fun e w'=>e= .returned (.int .i64 r.1)∧DidT tb ap r.2 O w w':=by
  unfold Tb.fork at hr
  by_cases he:t.e=0
  · have d1:(t.e !=0)=false:=by simp [he]
    rw [if_pos he] at hr
    clear he
    obtain ⟨p,h_b,h_r⟩:=Option.bind_eq_some_iff.1 hr
    have Hp:=Lib.hid h_b;clear h_b hr;have hr:=h_r;clear h_r
    obtain ⟨q,h_b,h_r⟩:=Option.bind_eq_some_iff.1 hr
    have Hq:=Lib.hid h_b;clear h_b hr;have hr:=h_r;clear h_r
    by_cases c1:wrap64 (q+1)<p
    · have d2:decide (wrap64 (q+1)<p)=true:=by simpa using c1
      rw [if_pos c1] at hr
      clear c1
      dsimp only at hr
      obtain ⟨a,h_b,h_r⟩:=Option.bind_eq_some_iff.1 hr
      have Ha:=Lib.hid h_b;clear h_b hr;have hr:=h_r;clear h_r
      obtain ⟨b,h_b,h_r⟩:=Option.bind_eq_some_iff.1 hr
      have Hb:=Lib.hid h_b;clear h_b hr;have hr:=h_r;clear h_r
      by_cases c2:b≤a
      · have d3:decide (b≤a)=true:=by simpa using c2
        rw [if_pos c2] at hr
        clear c2
        obtain rfl:=Option.some.inj hr
        clear hr
        go_enter Tryz.func262,Tryz.ntmps262
        have hA:=hT.hA
        have kt:=hT.blk
        have o_kt:=hT.no
        have c_kt:=f3 kt;have l_ktw:=lt_of kt
        go_wp2_with fail
        refine cg fun VW1 hV_VW1=> ?_
        have hF:=Fr.refl ((oneX tb)) O w
        refine nef1 hV_VW1 hA hF kt ?_;clear hA hF kt c_kt;intro z_VW1 hA hF kt c_kt
        clear hV_VW1
        refine rC (tHigh_calls (t:=t) _ _ _ _ Hp.out ⟨hA,kt,o_kt⟩) fun W1 hb_W1=> ?_
        refine bef1 hb_W1 hA hF kt ?_;clear hb_W1 hA hF kt c_kt;intro z_W1 hA hF kt c_kt
        go_wp2_with fail
        refine cg fun VW2 hV_VW2=> ?_
        refine nef1 hV_VW2 hA hF kt ?_;clear hA hF kt c_kt;intro z_VW2 hA hF kt c_kt
        clear hV_VW2
        refine rC (tHigh_calls (t:=t) _ _ _ _ Hq.out ⟨hA,kt,o_kt⟩) fun W2 hb_W2=> ?_
        refine bef1 hb_W2 hA hF kt ?_;clear hb_W2 hA hF kt c_kt;intro z_W2 hA hF kt c_kt
        go_wp2_with fail
        refine cg fun VW3 hV_VW3=> ?_
        refine nef1 hV_VW3 hA hF kt ?_;clear hA hF kt c_kt;intro z_VW3 hA hF kt c_kt
        clear hV_VW3
        refine tC (tOpen_calls (t:=t) x _ ⟨hA,kt,o_kt⟩) fun W3 O1 hT hf=> ?_
        refine ti0 hT.hA hT.blk hT.no hf hF ?_;clear hA hF kt c_kt o_kt hT hf;intro z_W3 hA hF kt c_kt o_kt
        go_wp2_with fail
        refine cg fun VW4 hV_VW4=> ?_
        refine nef1 hV_VW4 hA hF kt ?_;clear hA hF kt c_kt;intro z_VW4 hA hF kt c_kt
        clear hV_VW4
        refine rC (tHigh_calls (t:=t.opened x) _ _ _ _ Ha.out ⟨hA,kt,o_kt⟩) fun W4 hb_W4=> ?_
        refine bef1 hb_W4 hA hF kt ?_;clear hb_W4 hA hF kt c_kt;intro z_W4 hA hF kt c_kt
        go_wp2_with fail
        refine cg fun VW5 hV_VW5=> ?_
        refine nef1 hV_VW5 hA hF kt ?_;clear hA hF kt c_kt;intro z_VW5 hA hF kt c_kt
        clear hV_VW5
        refine rC (tHigh_calls (t:=t.opened x) _ _ _ _ Hb.out ⟨hA,kt,o_kt⟩) fun W5 hb_W5=> ?_
        refine bef1 hb_W5 hA hF kt ?_;clear hb_W5 hA hF kt c_kt;intro z_W5 hA hF kt c_kt
        go_wp2_with fail
        refine cg fun VW6 hV_VW6=> ?_
        refine nef1 hV_VW6 hA hF kt ?_;clear hA hF kt c_kt;intro z_VW6 hA hF kt c_kt
        clear hV_VW6
        refine tC (tPair_calls (t:=t.opened x) _ _ _ ⟨hA,kt,o_kt⟩) fun W6 O2 hT hf=> ?_
        refine ti0 hT.hA hT.blk hT.no hf hF ?_;clear hA hF kt c_kt o_kt hT hf;intro z_W6 hA hF kt c_kt o_kt
        go_wp2_with fail
        refine cg fun VW7 hV_VW7=> ?_
        refine nef1 hV_VW7 hA hF kt ?_;clear hA hF kt c_kt;intro z_VW7 hA hF kt c_kt
        clear hV_VW7
        refine tC (tPair_calls (t:=((t.opened x).pair (t.s.get x).k1 y).2) _ _ _ ⟨hA,kt,o_kt⟩) fun W7 O3 hT hf=> ?_
        refine ti0 hT.hA hT.blk hT.no hf hF ?_;clear hA hF kt c_kt o_kt hT hf;intro z_W7 hA hF kt c_kt o_kt
        go_wp2_with fail
        go_ret
        exact ⟨rfl,O3,⟨hA,kt,o_kt⟩,hF⟩
      · have d3:decide (b≤a)=false:=by simpa using c2
        rw [if_neg c2] at hr
        clear c2
        obtain rfl:=Option.some.inj hr
        clear hr
        go_enter Tryz.func262,Tryz.ntmps262
        have hA:=hT.hA
        have kt:=hT.blk
        have o_kt:=hT.no
        have c_kt:=f3 kt;have l_ktw:=lt_of kt
        go_wp2_with fail
        refine cg fun VW1 hV_VW1=> ?_
        have hF:=Fr.refl ((oneX tb)) O w
        refine nef1 hV_VW1 hA hF kt ?_;clear hA hF kt c_kt;intro z_VW1 hA hF kt c_kt
        clear hV_VW1
        refine rC (tHigh_calls (t:=t) _ _ _ _ Hp.out ⟨hA,kt,o_kt⟩) fun W1 hb_W1=> ?_
        refine bef1 hb_W1 hA hF kt ?_;clear hb_W1 hA hF kt c_kt;intro z_W1 hA hF kt c_kt
        go_wp2_with fail
        refine cg fun VW2 hV_VW2=> ?_
        refine nef1 hV_VW2 hA hF kt ?_;clear hA hF kt c_kt;intro z_VW2 hA hF kt c_kt
        clear hV_VW2
        refine rC (tHigh_calls (t:=t) _ _ _ _ Hq.out ⟨hA,kt,o_kt⟩) fun W2 hb_W2=> ?_
        refine bef1 hb_W2 hA hF kt ?_;clear hb_W2 hA hF kt c_kt;intro z_W2 hA hF kt c_kt
        go_wp2_with fail
        refine cg fun VW3 hV_VW3=> ?_
        refine nef1 hV_VW3 hA hF kt ?_;clear hA hF kt c_kt;intro z_VW3 hA hF kt c_kt
        clear hV_VW3
        refine tC (tOpen_calls (t:=t) x _ ⟨hA,kt,o_kt⟩) fun W3 O1 hT hf=> ?_
        refine ti0 hT.hA hT.blk hT.no hf hF ?_;clear hA hF kt c_kt o_kt hT hf;intro z_W3 hA hF kt c_kt o_kt
        go_wp2_with fail
        refine cg fun VW4 hV_VW4=> ?_
        refine nef1 hV_VW4 hA hF kt ?_;clear hA hF kt c_kt;intro z_VW4 hA hF kt c_kt
        clear hV_VW4
        refine rC (tHigh_calls (t:=t.opened x) _ _ _ _ Ha.out ⟨hA,kt,o_kt⟩) fun W4 hb_W4=> ?_
        refine bef1 hb_W4 hA hF kt ?_;clear hb_W4 hA hF kt c_kt;intro z_W4 hA hF kt c_kt
        go_wp2_with fail
        refine cg fun VW5 hV_VW5=> ?_
        refine nef1 hV_VW5 hA hF kt ?_;clear hA hF kt c_kt;intro z_VW5 hA hF kt c_kt
        clear hV_VW5
        refine rC (tHigh_calls (t:=t.opened x) _ _ _ _ Hb.out ⟨hA,kt,o_kt⟩) fun W5 hb_W5=> ?_
        refine bef1 hb_W5 hA hF kt ?_;clear hb_W5 hA hF kt c_kt;intro z_W5 hA hF kt c_kt
        go_wp2_with fail
        refine cg fun VW6 hV_VW6=> ?_
        refine nef1 hV_VW6 hA hF kt ?_;clear hA hF kt c_kt;intro z_VW6 hA hF kt c_kt
        clear hV_VW6
        refine tC (tOpen_calls (t:=t.opened x) (t.s.get x).k1 _ ⟨hA,kt,o_kt⟩) fun W6 O2 hT hf=> ?_
        refine ti0 hT.hA hT.blk hT.no hf hF ?_;clear hA hF kt c_kt o_kt hT hf;intro z_W6 hA hF kt c_kt o_kt
        go_wp2_with fail
        refine cg fun VW7 hV_VW7=> ?_
        refine nef1 hV_VW7 hA hF kt ?_;clear hA hF kt c_kt;intro z_VW7 hA hF kt c_kt
        clear hV_VW7
        refine tC (tPair_calls (t:=(t.opened x).opened (t.s.get x).k1) _ _ _ ⟨hA,kt,o_kt⟩) fun W7 O3 hT hf=> ?_
        refine ti0 hT.hA hT.blk hT.no hf hF ?_;clear hA hF kt c_kt o_kt hT hf;intro z_W7 hA hF kt c_kt o_kt
        go_wp2_with fail
        refine cg fun VW8 hV_VW8=> ?_
        refine nef1 hV_VW8 hA hF kt ?_;clear hA hF kt c_kt;intro z_VW8 hA hF kt c_kt
        clear hV_VW8
        refine tC (tPair_calls (t:=(((t.opened x).opened (t.s.get x).k1).pair (t.s.get x).k0 ((t.opened x).s.get (t.s.get x).k1).k0).2) _ _ _ ⟨hA,kt,o_kt⟩) fun W8 O4 hT hf=> ?_
        refine ti0 hT.hA hT.blk hT.no hf hF ?_;clear hA hF kt c_kt o_kt hT hf;intro z_W8 hA hF kt c_kt o_kt
        go_wp2_with fail
        refine cg fun VW9 hV_VW9=> ?_
        refine nef1 hV_VW9 hA hF kt ?_;clear hA hF kt c_kt;intro z_VW9 hA hF kt c_kt
        clear hV_VW9
        refine tC (tPair_calls (t:=((((t.opened x).opened (t.s.get x).k1).pair (t.s.get x).k0 ((t.opened x).s.get (t.s.get x).k1).k0).2.pair ((t.opened x).s.get (t.s.get x).k1).k1 y).2) _ _ _ ⟨hA,kt,o_kt⟩) fun W9 O5 hT hf=> ?_
        refine ti0 hT.hA hT.blk hT.no hf hF ?_;clear hA hF kt c_kt o_kt hT hf;intro z_W9 hA hF kt c_kt o_kt
        go_wp2_with fail
        go_ret
        exact ⟨rfl,O5,⟨hA,kt,o_kt⟩,hF⟩
    · have d2:decide (wrap64 (q+1)<p)=false:=by simpa using c1
      rw [if_neg c1] at hr
      clear c1
      by_cases c3:wrap64 (p+1)<q
      · have d4:decide (wrap64 (p+1)<q)=true:=by simpa using c3
        rw [if_pos c3] at hr
        clear c3
        dsimp only at hr
        obtain ⟨a,h_b,h_r⟩:=Option.bind_eq_some_iff.1 hr
        have Ha:=Lib.hid h_b;clear h_b hr;have hr:=h_r;clear h_r
        obtain ⟨b,h_b,h_r⟩:=Option.bind_eq_some_iff.1 hr
        have Hb:=Lib.hid h_b;clear h_b hr;have hr:=h_r;clear h_r
        by_cases c2:b≤a
        · have d3:decide (b≤a)=true:=by simpa using c2
          rw [if_pos c2] at hr
          clear c2
          obtain rfl:=Option.some.inj hr
          clear hr
          go_enter Tryz.func262,Tryz.ntmps262
          have hA:=hT.hA
          have kt:=hT.blk
          have o_kt:=hT.no
          have c_kt:=f3 kt;have l_ktw:=lt_of kt
          go_wp2_with fail
          refine cg fun VW1 hV_VW1=> ?_
          have hF:=Fr.refl ((oneX tb)) O w
          refine nef1 hV_VW1 hA hF kt ?_;clear hA hF kt c_kt;intro z_VW1 hA hF kt c_kt
          clear hV_VW1
          refine rC (tHigh_calls (t:=t) _ _ _ _ Hp.out ⟨hA,kt,o_kt⟩) fun W1 hb_W1=> ?_
          refine bef1 hb_W1 hA hF kt ?_;clear hb_W1 hA hF kt c_kt;intro z_W1 hA hF kt c_kt
          go_wp2_with fail
          refine cg fun VW2 hV_VW2=> ?_
          refine nef1 hV_VW2 hA hF kt ?_;clear hA hF kt c_kt;intro z_VW2 hA hF kt c_kt
          clear hV_VW2
          refine rC (tHigh_calls (t:=t) _ _ _ _ Hq.out ⟨hA,kt,o_kt⟩) fun W2 hb_W2=> ?_
          refine bef1 hb_W2 hA hF kt ?_;clear hb_W2 hA hF kt c_kt;intro z_W2 hA hF kt c_kt
          go_wp2_with fail
          refine cg fun VW3 hV_VW3=> ?_
          refine nef1 hV_VW3 hA hF kt ?_;clear hA hF kt c_kt;intro z_VW3 hA hF kt c_kt
          clear hV_VW3
          refine tC (tOpen_calls (t:=t) y _ ⟨hA,kt,o_kt⟩) fun W3 O1 hT hf=> ?_
          refine ti0 hT.hA hT.blk hT.no hf hF ?_;clear hA hF kt c_kt o_kt hT hf;intro z_W3 hA hF kt c_kt o_kt
          go_wp2_with fail
          refine cg fun VW4 hV_VW4=> ?_
          refine nef1 hV_VW4 hA hF kt ?_;clear hA hF kt c_kt;intro z_VW4 hA hF kt c_kt
          clear hV_VW4
          refine rC (tHigh_calls (t:=t.opened y) _ _ _ _ Ha.out ⟨hA,kt,o_kt⟩) fun W4 hb_W4=> ?_
          refine bef1 hb_W4 hA hF kt ?_;clear hb_W4 hA hF kt c_kt;intro z_W4 hA hF kt c_kt
          go_wp2_with fail
          refine cg fun VW5 hV_VW5=> ?_
          refine nef1 hV_VW5 hA hF kt ?_;clear hA hF kt c_kt;intro z_VW5 hA hF kt c_kt
          clear hV_VW5
          refine rC (tHigh_calls (t:=t.opened y) _ _ _ _ Hb.out ⟨hA,kt,o_kt⟩) fun W5 hb_W5=> ?_
          refine bef1 hb_W5 hA hF kt ?_;clear hb_W5 hA hF kt c_kt;intro z_W5 hA hF kt c_kt
          go_wp2_with fail
          refine cg fun VW6 hV_VW6=> ?_
          refine nef1 hV_VW6 hA hF kt ?_;clear hA hF kt c_kt;intro z_VW6 hA hF kt c_kt
          clear hV_VW6
          refine tC (tPair_calls (t:=t.opened y) _ _ _ ⟨hA,kt,o_kt⟩) fun W6 O2 hT hf=> ?_
          refine ti0 hT.hA hT.blk hT.no hf hF ?_;clear hA hF kt c_kt o_kt hT hf;intro z_W6 hA hF kt c_kt o_kt
          go_wp2_with fail
          refine cg fun VW7 hV_VW7=> ?_
          refine nef1 hV_VW7 hA hF kt ?_;clear hA hF kt c_kt;intro z_VW7 hA hF kt c_kt
          clear hV_VW7
          refine tC (tPair_calls (t:=((t.opened y).pair x (t.s.get y).k0).2) _ _ _ ⟨hA,kt,o_kt⟩) fun W7 O3 hT hf=> ?_
          refine ti0 hT.hA hT.blk hT.no hf hF ?_;clear hA hF kt c_kt o_kt hT hf;intro z_W7 hA hF kt c_kt o_kt
          go_wp2_with fail
          go_ret
          exact ⟨rfl,O3,⟨hA,kt,o_kt⟩,hF⟩
        · have d3:decide (b≤a)=false:=by simpa using c2
          rw [if_neg c2] at hr
          clear c2
          obtain rfl:=Option.some.inj hr
          clear hr
          go_enter Tryz.func262,Tryz.ntmps262
          have hA:=hT.hA
          have kt:=hT.blk
          have o_kt:=hT.no
          have c_kt:=f3 kt;have l_ktw:=lt_of kt
          go_wp2_with fail
          refine cg fun VW1 hV_VW1=> ?_
          have hF:=Fr.refl ((oneX tb)) O w
          refine nef1 hV_VW1 hA hF kt ?_;clear hA hF kt c_kt;intro z_VW1 hA hF kt c_kt
          clear hV_VW1
          refine rC (tHigh_calls (t:=t) _ _ _ _ Hp.out ⟨hA,kt,o_kt⟩) fun W1 hb_W1=> ?_
          refine bef1 hb_W1 hA hF kt ?_;clear hb_W1 hA hF kt c_kt;intro z_W1 hA hF kt c_kt
          go_wp2_with fail
          refine cg fun VW2 hV_VW2=> ?_
          refine nef1 hV_VW2 hA hF kt ?_;clear hA hF kt c_kt;intro z_VW2 hA hF kt c_kt
          clear hV_VW2
          refine rC (tHigh_calls (t:=t) _ _ _ _ Hq.out ⟨hA,kt,o_kt⟩) fun W2 hb_W2=> ?_
          refine bef1 hb_W2 hA hF kt ?_;clear hb_W2 hA hF kt c_kt;intro z_W2 hA hF kt c_kt
          go_wp2_with fail
          refine cg fun VW3 hV_VW3=> ?_
          refine nef1 hV_VW3 hA hF kt ?_;clear hA hF kt c_kt;intro z_VW3 hA hF kt c_kt
          clear hV_VW3
          refine tC (tOpen_calls (t:=t) y _ ⟨hA,kt,o_kt⟩) fun W3 O1 hT hf=> ?_
          refine ti0 hT.hA hT.blk hT.no hf hF ?_;clear hA hF kt c_kt o_kt hT hf;intro z_W3 hA hF kt c_kt o_kt
          go_wp2_with fail
          refine cg fun VW4 hV_VW4=> ?_
          refine nef1 hV_VW4 hA hF kt ?_;clear hA hF kt c_kt;intro z_VW4 hA hF kt c_kt
          clear hV_VW4
          refine rC (tHigh_calls (t:=t.opened y) _ _ _ _ Ha.out ⟨hA,kt,o_kt⟩) fun W4 hb_W4=> ?_
          refine bef1 hb_W4 hA hF kt ?_;clear hb_W4 hA hF kt c_kt;intro z_W4 hA hF kt c_kt
          go_wp2_with fail
          refine cg fun VW5 hV_VW5=> ?_
          refine nef1 hV_VW5 hA hF kt ?_;clear hA hF kt c_kt;intro z_VW5 hA hF kt c_kt
          clear hV_VW5
          refine rC (tHigh_calls (t:=t.opened y) _ _ _ _ Hb.out ⟨hA,kt,o_kt⟩) fun W5 hb_W5=> ?_
          refine bef1 hb_W5 hA hF kt ?_;clear hb_W5 hA hF kt c_kt;intro z_W5 hA hF kt c_kt
          go_wp2_with fail
          refine cg fun VW6 hV_VW6=> ?_
          refine nef1 hV_VW6 hA hF kt ?_;clear hA hF kt c_kt;intro z_VW6 hA hF kt c_kt
          clear hV_VW6
          refine tC (tOpen_calls (t:=t.opened y) (t.s.get y).k0 _ ⟨hA,kt,o_kt⟩) fun W6 O2 hT hf=> ?_
          refine ti0 hT.hA hT.blk hT.no hf hF ?_;clear hA hF kt c_kt o_kt hT hf;intro z_W6 hA hF kt c_kt o_kt
          go_wp2_with fail
          refine cg fun VW7 hV_VW7=> ?_
          refine nef1 hV_VW7 hA hF kt ?_;clear hA hF kt c_kt;intro z_VW7 hA hF kt c_kt
          clear hV_VW7
          refine tC (tPair_calls (t:=(t.opened y).opened (t.s.get y).k0) _ _ _ ⟨hA,kt,o_kt⟩) fun W7 O3 hT hf=> ?_
          refine ti0 hT.hA hT.blk hT.no hf hF ?_;clear hA hF kt c_kt o_kt hT hf;intro z_W7 hA hF kt c_kt o_kt
          go_wp2_with fail
          refine cg fun VW8 hV_VW8=> ?_
          refine nef1 hV_VW8 hA hF kt ?_;clear hA hF kt c_kt;intro z_VW8 hA hF kt c_kt
          clear hV_VW8
          refine tC (tPair_calls (t:=(((t.opened y).opened (t.s.get y).k0).pair x ((t.opened y).s.get (t.s.get y).k0).k0).2) _ _ _ ⟨hA,kt,o_kt⟩) fun W8 O4 hT hf=> ?_
          refine ti0 hT.hA hT.blk hT.no hf hF ?_;clear hA hF kt c_kt o_kt hT hf;intro z_W8 hA hF kt c_kt o_kt
          go_wp2_with fail
          refine cg fun VW9 hV_VW9=> ?_
          refine nef1 hV_VW9 hA hF kt ?_;clear hA hF kt c_kt;intro z_VW9 hA hF kt c_kt
          clear hV_VW9
          refine tC (tPair_calls (t:=((((t.opened y).opened (t.s.get y).k0).pair x ((t.opened y).s.get (t.s.get y).k0).k0).2.pair ((t.opened y).s.get (t.s.get y).k0).k1 (t.s.get y).k1).2) _ _ _ ⟨hA,kt,o_kt⟩) fun W9 O5 hT hf=> ?_
          refine ti0 hT.hA hT.blk hT.no hf hF ?_;clear hA hF kt c_kt o_kt hT hf;intro z_W9 hA hF kt c_kt o_kt
          go_wp2_with fail
          go_ret
          exact ⟨rfl,O5,⟨hA,kt,o_kt⟩,hF⟩
      · have d4:decide (wrap64 (p+1)<q)=false:=by simpa using c3
        rw [if_neg c3] at hr
        clear c3
        obtain rfl:=Option.some.inj hr
        clear hr
        go_enter Tryz.func262,Tryz.ntmps262
        have hA:=hT.hA
        have kt:=hT.blk
        have o_kt:=hT.no
        have c_kt:=f3 kt;have l_ktw:=lt_of kt
        go_wp2_with fail
        refine cg fun VW1 hV_VW1=> ?_
        have hF:=Fr.refl ((oneX tb)) O w
        refine nef1 hV_VW1 hA hF kt ?_;clear hA hF kt c_kt;intro z_VW1 hA hF kt c_kt
        clear hV_VW1
        refine rC (tHigh_calls (t:=t) _ _ _ _ Hp.out ⟨hA,kt,o_kt⟩) fun W1 hb_W1=> ?_
        refine bef1 hb_W1 hA hF kt ?_;clear hb_W1 hA hF kt c_kt;intro z_W1 hA hF kt c_kt
        go_wp2_with fail
        refine cg fun VW2 hV_VW2=> ?_
        refine nef1 hV_VW2 hA hF kt ?_;clear hA hF kt c_kt;intro z_VW2 hA hF kt c_kt
        clear hV_VW2
        refine rC (tHigh_calls (t:=t) _ _ _ _ Hq.out ⟨hA,kt,o_kt⟩) fun W2 hb_W2=> ?_
        refine bef1 hb_W2 hA hF kt ?_;clear hb_W2 hA hF kt c_kt;intro z_W2 hA hF kt c_kt
        go_wp2_with fail
        refine cg fun VW3 hV_VW3=> ?_
        refine nef1 hV_VW3 hA hF kt ?_;clear hA hF kt c_kt;intro z_VW3 hA hF kt c_kt
        clear hV_VW3
        refine tC (tPair_calls (t:=t) _ _ _ ⟨hA,kt,o_kt⟩) fun W3 O1 hT hf=> ?_
        refine ti0 hT.hA hT.blk hT.no hf hF ?_;clear hA hF kt c_kt o_kt hT hf;intro z_W3 hA hF kt c_kt o_kt
        go_wp2_with fail
        go_ret
        exact ⟨rfl,O1,⟨hA,kt,o_kt⟩,hF⟩
  · have d1:(t.e !=0)=true:=by simp [he]
    rw [if_neg he] at hr
    clear he
    obtain rfl:=Option.some.inj hr
    clear hr
    go_enter Tryz.func262,Tryz.ntmps262
    have hA:=hT.hA
    have kt:=hT.blk
    have o_kt:=hT.no
    have c_kt:=f3 kt;have l_ktw:=lt_of kt
    go_wp2_with fail
    refine cg fun V hV_V=> ?_
    have hF:=Fr.refl ((oneX tb)) O w
    refine nnf1 hV_V hA hF kt ?_;clear hA hF kt c_kt;intro hn_V z_V hA hF kt c_kt
    obtain ⟨kl,c_kl,o_kl,l_klV⟩:=nN hn_V hV_V (w.heap.size)
    clear hV_V hn_V
    refine tC (tDrop_calls [x,y] w.heap.size 0 2 _ _ (by simp) _ ⟨hA,kt,o_kt⟩ kl (two_cell x y) o_kl (by omega) 2 rfl) fun W1 O1 hT hf=> ?_
    refine ti1 hT.hA hT.blk hT.no hf hF kl o_kl ?_;clear hA hF kt c_kt o_kt kl o_kl c_kl hT hf;intro z_W1 hA hF kt c_kt o_kt kl c_kl o_kl
    go_wp2_with fail
    go_ret
    exact ⟨rfl,O1,⟨hA,kt,o_kt⟩,hF⟩
end
section
open Go.RowKit
attribute [local go_sem ↓] Go.wp_at_zero Go.wp_at_succ
attribute [local go_sem] lt_s2 lt_s3 lt_s4
variable {ap : Value} {O : Nat → Prop} {tb : Nat} {t : Tb}
theorem lfL_le (a n:Int):(lfL a n).length≤64:=by
  unfold lfL;split
  · rename_i h
    rw [unpack_length]
    have h0:=h.1;have h1:=h.2.1
    omega
  · simp
theorem insR_le (ok:Bool) (l:List Bool) (i:Int) (one:Bool):(insR ok l i one).length≤64:=by
  unfold insR;split
  · rename_i h
    unfold insOk at h
    simp only [Bool.and_eq_true,decide_eq_true_eq] at h
    rw [insL_length];omega
  · simp
theorem insert_l (l : List Bool) (hl : l.length ≤ 64) (i : Int) (one : Bool) (w : World) : Calls Tryz.prog 257 #[.agg #[.int .u64 (pack l : Int), .int .i64 (l.length : Int)], .int .i64 i, .bool one] w fun e w' =>
    e= .returned (.tuple #[.agg #[.int .u64 (pack (insR true l i one):Int), .int .i64 ((insR true l i one).length:Int)], .bool (insOk true l i)])∧Below w.heap.size w w':=insert_lf (lf_self hl) i one _ _ rfl rfl w
theorem insert_nil (one : Bool) (w : World) : Calls Tryz.prog 257 #[.agg #[.int .u64 0, .int .i64 0], .int .i64 0, .bool one] w fun e w' =>
    e= .returned (.tuple #[.agg #[.int .u64 (pack (insR true [] 0 one):Int), .int .i64 ((insR true [] 0 one).length:Int)], .bool (insOk true [] 0)])∧Below w.heap.size w w':=insert_l [] (by simp) 0 one w
theorem split_32 {a n : Int} (hU : U64 a) (l1 l2 : List Bool) (h1 : l1 = (lfL a n).take 32) (h2 : l2 = (lfL a n).drop 32) (w : World) : Calls Tryz.prog 260 #[.agg #[.int .u64 a, .int .i64 n], .int .i64 32] w fun e w' =>
    e= .returned (.tuple #[.agg #[.int .u64 (pack l1:Int), .int .i64 (l1.length:Int)], .agg #[.int .u64 (pack l2:Int), .int .i64 (l2.length:Int)]])∧Below w.heap.size w w':=by
  subst h1 h2;exact split_i hU 32 w
theorem insert_c (l c : List Bool) (hl : l.length ≤ 64) (i : Int) (one : Bool) (hc : c = insR true l i one) (w : World) : Calls Tryz.prog 257 #[.agg #[.int .u64 (pack l : Int), .int .i64 (l.length : Int)], .int .i64 i, .bool one] w fun e w' =>
    e= .returned (.tuple #[.agg #[.int .u64 (pack c:Int), .int .i64 (c.length:Int)], .bool (insOk true l i)])∧Below w.heap.size w w':=by
  subst hc;exact insert_l l hl i one w
theorem two_def (t:Tb) (a b:List Bool):t.two a b=((t.leaf a).2.leaf b).2.pairOr (t.leaf a).1 ((t.leaf a).2.leaf b).1:=rfl
theorem tIns_nil (one : Bool) (k : Nat) (h i : Int) (r : Int × Tb) (w : World) (hT : TB w tb ap t O) (h1 : bIs t.s h = false) (hr : some (t.leaf (insR true [] 0 one)) = some r) :
    Calls Tryz.prog 191 #[.pointer (some ⟨tb,0,none⟩), .int .i64 h, .int .i64 i, .bool one] w fun e w'=>e= .returned (.int .i64 r.1)∧DidT tb ap r.2 O w w':=by
  obtain rfl:=Option.some.inj hr
  clear hr
  go_enter Tryz.func191,Tryz.ntmps191
  have hA:=hT.hA
  have kt:=hT.blk
  have o_kt:=hT.no
  have c_kt:=f3 kt;have l_ktw:=lt_of kt
  go_wp2_with fail
  refine cg fun V hV_V=> ?_
  have hF:=Fr.refl ((oneX tb)) O w
  refine nef1 hV_V hA hF kt ?_;clear hA hF kt c_kt;intro z_V hA hF kt c_kt
  clear hV_V
  refine rC (bRow_calls _ _ hA) fun W1 hb_W1=> ?_
  refine bef1 hb_W1 hA hF kt ?_;clear hb_W1 hA hF kt c_kt;intro z_W1 hA hF kt c_kt
  unfold Nd.val
  go_wp2_with fail
  refine cg fun V1 hV_V1=> ?_
  refine nef1 hV_V1 hA hF kt ?_;clear hA hF kt c_kt;intro z_V1 hA hF kt c_kt
  clear hV_V1
  refine rC (insert_nil one _) fun W2 hb_W2=> ?_
  refine bef1 hb_W2 hA hF kt ?_;clear hb_W2 hA hF kt c_kt;intro z_W2 hA hF kt c_kt
  go_wp2_with fail
  refine cg fun V2 hV_V2=> ?_
  refine nef1 hV_V2 hA hF kt ?_;clear hA hF kt c_kt;intro z_V2 hA hF kt c_kt
  clear hV_V2
  refine tC (tLeaf_calls _ (insR_le true [] 0 one) _ ⟨hA,kt,o_kt⟩) fun W3 O1 hT hf=> ?_
  refine ti0 hT.hA hT.blk hT.no hf hF ?_;clear hA hF kt c_kt o_kt hT hf;intro z_W3 hA hF kt c_kt o_kt
  go_wp2_with fail
  go_ret
  exact ⟨rfl,O1,⟨hA,kt,o_kt⟩,hF⟩
theorem tIns_fits (one : Bool) (k : Nat) (h i : Int) (r : Int × Tb) (w : World) (hT : TB w tb ap t O) (h1 : bIs t.s h = true) (d1 : ((t.s.get h).tag == 1) = true) (hU : U64 (t.s.get h).a) (h3 : insOk (lfK (t.s.get h)) (lfB (t.s.get h)) i = true) (hr : some (t.leaf (insR (lfK (t.s.get h)) (lfB (t.s.get h)) i one)) = some r) :
    Calls Tryz.prog 191 #[.pointer (some ⟨tb,0,none⟩), .int .i64 h, .int .i64 i, .bool one] w fun e w'=>e= .returned (.int .i64 r.1)∧DidT tb ap r.2 O w w':=by
  obtain rfl:=Option.some.inj hr
  clear hr
  have d2:insOk (lfOk (t.s.get h).a (wrap64 (t.s.get h).b)) (lfL (t.s.get h).a (wrap64 (t.s.get h).b)) i=true:=h3
  clear h3
  go_enter Tryz.func191,Tryz.ntmps191
  have hA:=hT.hA
  have kt:=hT.blk
  have o_kt:=hT.no
  have c_kt:=f3 kt;have l_ktw:=lt_of kt
  go_wp2_with fail
  refine cg fun V hV_V=> ?_
  have hF:=Fr.refl ((oneX tb)) O w
  refine nef1 hV_V hA hF kt ?_;clear hA hF kt c_kt;intro z_V hA hF kt c_kt
  clear hV_V
  refine rC (bRow_calls _ _ hA) fun W1 hb_W1=> ?_
  refine bef1 hb_W1 hA hF kt ?_;clear hb_W1 hA hF kt c_kt;intro z_W1 hA hF kt c_kt
  unfold Nd.val
  go_wp2_with fail
  refine cg fun V1 hV_V1=> ?_
  refine nnf1 hV_V1 hA hF kt ?_;clear hA hF kt c_kt;intro hn_V1 z_V1 hA hF kt c_kt
  obtain ⟨kn,c_kn,o_kn,l_knV1⟩:=nN hn_V1 hV_V1 (W1.heap.size)
  clear hV_V1 hn_V1
  refine rC (bBits_calls (t.s.get h) _) fun W2 hb_W2=> ?_
  refine bef2 hb_W2 hA hF kt kn ?_;clear hb_W2 hA hF kt kn c_kt c_kn;intro z_W2 hA hF kt c_kt kn c_kn
  go_wp2_with fail
  refine cg fun V2 hV_V2=> ?_
  refine nnf2 hV_V2 hA hF kt kn ?_;clear hA hF kt kn c_kt c_kn;intro hn_V2 z_V2 hA hF kt c_kt kn c_kn
  obtain ⟨kl,c_kl,o_kl,l_klV2⟩:=nN hn_V2 hV_V2 (W2.heap.size)
  clear hV_V2 hn_V2
  refine rC (insert_i hU i one _) fun W3 hb_W3=> ?_
  refine bef3 hb_W3 hA hF kt kn kl ?_;clear hb_W3 hA hF kt kn kl c_kt c_kn c_kl;intro z_W3 hA hF kt c_kt kn c_kn kl c_kl
  go_wp2_with fail
  refine cg fun V3 hV_V3=> ?_
  refine nnf3 hV_V3 hA hF kt kn kl ?_;clear hA hF kt kn kl c_kt c_kn c_kl;intro hn_V3 z_V3 hA hF kt c_kt kn c_kn kl c_kl
  obtain ⟨kx,c_kx,o_kx,l_kxV3⟩:=nN hn_V3 hV_V3 (W3.heap.size)
  clear hV_V3 hn_V3
  refine tC (tLeaf_calls _ (insR_le (lfK (t.s.get h)) (lfB (t.s.get h)) i one) _ ⟨hA,kt,o_kt⟩) fun W4 O1 hT hf=> ?_
  refine ti3 hT.hA hT.blk hT.no hf hF kn o_kn kl o_kl kx o_kx ?_;clear hA hF kt c_kt o_kt kn o_kn kl o_kl kx o_kx c_kn c_kl c_kx hT hf;intro z_W4 hA hF kt c_kt o_kt kn c_kn o_kn kl c_kl o_kl kx c_kx o_kx
  go_wp2_with fail
  go_ret
  exact ⟨rfl,O1,⟨hA,kt,o_kt⟩,hF⟩
theorem tIns_l (one : Bool) (k : Nat) (h i : Int) (r : Int × Tb) (w : World) (hT : TB w tb ap t O) (h1 : bIs t.s h = true) (d1 : ((t.s.get h).tag == 1) = true) (hU : U64 (t.s.get h).a) (d2 : insOk (lfOk (t.s.get h).a (wrap64 (t.s.get h).b)) (lfL (t.s.get h).a (wrap64 (t.s.get h).b)) i = false) (l1 l2 : List Bool) (H1 : Hid (l1 = (lfL (t.s.get h).a (wrap64 (t.s.get h).b)).take 32)) (H2 : Hid (l2 = (lfL (t.s.get h).a (wrap64 (t.s.get h).b)).drop 32)) (e1 : l1.length ≤ 64) (e2 : l2.length ≤ 64) (d3 : decide (i ≤ (l1.length : Int)) = true) (hr : some (t.two (insR true l1 i one) l2) = some r) :
    Calls Tryz.prog 191 #[.pointer (some ⟨tb,0,none⟩), .int .i64 h, .int .i64 i, .bool one] w fun e w'=>e= .returned (.int .i64 r.1)∧DidT tb ap r.2 O w w':=by
  obtain ⟨c,H3⟩: ∃c,Hid (c=insR true l1 i one):=⟨_,Lib.hid rfl⟩
  have e3:c.length≤64:=by rw [H3.out];exact insR_le _ _ _ _
  rw [←H3.out] at hr
  obtain rfl:=Option.some.inj hr
  clear hr
  go_enter Tryz.func191,Tryz.ntmps191
  have hA:=hT.hA
  have kt:=hT.blk
  have o_kt:=hT.no
  have c_kt:=f3 kt;have l_ktw:=lt_of kt
  go_wp2_with fail
  refine cg fun V hV_V=> ?_
  have hF:=Fr.refl ((oneX tb)) O w
  refine nef1 hV_V hA hF kt ?_;clear hA hF kt c_kt;intro z_V hA hF kt c_kt
  clear hV_V
  refine rC (bRow_calls _ _ hA) fun W1 hb_W1=> ?_
  refine bef1 hb_W1 hA hF kt ?_;clear hb_W1 hA hF kt c_kt;intro z_W1 hA hF kt c_kt
  unfold Nd.val
  go_wp2_with fail
  refine cg fun V1 hV_V1=> ?_
  refine nnf1 hV_V1 hA hF kt ?_;clear hA hF kt c_kt;intro hn_V1 z_V1 hA hF kt c_kt
  obtain ⟨kn,c_kn,o_kn,l_knV1⟩:=nN hn_V1 hV_V1 (W1.heap.size)
  clear hV_V1 hn_V1
  refine rC (bBits_calls (t.s.get h) _) fun W2 hb_W2=> ?_
  refine bef2 hb_W2 hA hF kt kn ?_;clear hb_W2 hA hF kt kn c_kt c_kn;intro z_W2 hA hF kt c_kt kn c_kn
  go_wp2_with fail
  refine cg fun V2 hV_V2=> ?_
  refine nnf2 hV_V2 hA hF kt kn ?_;clear hA hF kt kn c_kt c_kn;intro hn_V2 z_V2 hA hF kt c_kt kn c_kn
  obtain ⟨kl,c_kl,o_kl,l_klV2⟩:=nN hn_V2 hV_V2 (W2.heap.size)
  clear hV_V2 hn_V2
  refine rC (insert_i hU i one _) fun W3 hb_W3=> ?_
  refine bef3 hb_W3 hA hF kt kn kl ?_;clear hb_W3 hA hF kt kn kl c_kt c_kn c_kl;intro z_W3 hA hF kt c_kt kn c_kn kl c_kl
  go_wp2_with fail
  refine cg fun V3 hV_V3=> ?_
  refine nnf3 hV_V3 hA hF kt kn kl ?_;clear hA hF kt kn kl c_kt c_kn c_kl;intro hn_V3 z_V3 hA hF kt c_kt kn c_kn kl c_kl
  obtain ⟨kx,c_kx,o_kx,l_kxV3⟩:=nN hn_V3 hV_V3 (W3.heap.size)
  clear hV_V3 hn_V3
  refine rC (split_32 hU l1 l2 H1.out H2.out _) fun W4 hb_W4=> ?_
  refine bef4 hb_W4 hA hF kt kn kl kx ?_;clear hb_W4 hA hF kt kn kl kx c_kt c_kn c_kl c_kx;intro z_W4 hA hF kt c_kt kn c_kn kl c_kl kx c_kx
  go_wp2_with fail
  refine cg fun V4 hV_V4=> ?_
  refine nnf4 hV_V4 hA hF kt kn kl kx ?_;clear hA hF kt kn kl kx c_kt c_kn c_kl c_kx;intro hn_V4 z_V4 hA hF kt c_kt kn c_kn kl c_kl kx c_kx
  obtain ⟨ka,c_ka,o_ka,l_kaV4⟩:=nN hn_V4 hV_V4 (W4.heap.size)
  obtain ⟨kb,c_kb,o_kb,l_kbV4⟩:=nN hn_V4 hV_V4 (W4.heap.size+1)
  clear hV_V4 hn_V4
  refine rC (insert_c l1 c e1 i one H3.out _) fun W5 hb_W5=> ?_
  refine bef6 hb_W5 hA hF kt kn kl kx ka kb ?_;clear hb_W5 hA hF kt kn kl kx ka kb c_kt c_kn c_kl c_kx c_ka c_kb;intro z_W5 hA hF kt c_kt kn c_kn kl c_kl kx c_kx ka c_ka kb c_kb
  go_wp2_with fail
  refine cg fun V5 hV_V5=> ?_
  refine nef6 hV_V5 hA hF kt kn kl kx ka kb ?_;clear hA hF kt kn kl kx ka kb c_kt c_kn c_kl c_kx c_ka c_kb;intro z_V5 hA hF kt c_kt kn c_kn kl c_kl kx c_kx ka c_ka kb c_kb
  clear hV_V5
  refine tC (tLeaf_calls c e3 _ ⟨hA,kt,o_kt⟩) fun W6 O1 hT hf=> ?_
  refine ti5 hT.hA hT.blk hT.no hf hF kn o_kn kl o_kl kx o_kx ka o_ka kb o_kb ?_;clear hA hF kt c_kt o_kt kn o_kn kl o_kl kx o_kx ka o_ka kb o_kb c_kn c_kl c_kx c_ka c_kb hT hf;intro z_W6 hA hF kt c_kt o_kt kn c_kn o_kn kl c_kl o_kl kx c_kx o_kx ka c_ka o_ka kb c_kb o_kb
  go_wp2_with fail
  refine cg fun V6 hV_V6=> ?_
  refine nef6 hV_V6 hA hF kt kn kl kx ka kb ?_;clear hA hF kt kn kl kx ka kb c_kt c_kn c_kl c_kx c_ka c_kb;intro z_V6 hA hF kt c_kt kn c_kn kl c_kl kx c_kx ka c_ka kb c_kb
  clear hV_V6
  refine tC (tLeaf_calls l2 e2 _ ⟨hA,kt,o_kt⟩) fun W7 O2 hT hf=> ?_
  refine ti5 hT.hA hT.blk hT.no hf hF kn o_kn kl o_kl kx o_kx ka o_ka kb o_kb ?_;clear hA hF kt c_kt o_kt kn o_kn kl o_kl kx o_kx ka o_ka kb o_kb c_kn c_kl c_kx c_ka c_kb hT hf;intro z_W7 hA hF kt c_kt o_kt kn c_kn o_kn kl c_kl o_kl kx c_kx o_kx ka c_ka o_ka kb c_kb o_kb
  go_wp2_with fail
  refine cg fun V7 hV_V7=> ?_
  refine nef6 hV_V7 hA hF kt kn kl kx ka kb ?_;clear hA hF kt kn kl kx ka kb c_kt c_kn c_kl c_kx c_ka c_kb;intro z_V7 hA hF kt c_kt kn c_kn kl c_kl kx c_kx ka c_ka kb c_kb
  clear hV_V7
  refine tC (tPairOr_calls _ _ _ ⟨hA,kt,o_kt⟩) fun W8 O3 hT hf=> ?_
  refine ti5 hT.hA hT.blk hT.no hf hF kn o_kn kl o_kl kx o_kx ka o_ka kb o_kb ?_;clear hA hF kt c_kt o_kt kn o_kn kl o_kl kx o_kx ka o_ka kb o_kb c_kn c_kl c_kx c_ka c_kb hT hf;intro z_W8 hA hF kt c_kt o_kt kn c_kn o_kn kl c_kl o_kl kx c_kx o_kx ka c_ka o_ka kb c_kb o_kb
  go_wp2_with fail
  go_ret
  rw [two_def]
  exact ⟨rfl,O3,⟨hA,kt,o_kt⟩,hF⟩
theorem tIns_r (one : Bool) (k : Nat) (h i : Int) (r : Int × Tb) (w : World) (hT : TB w tb ap t O) (h1 : bIs t.s h = true) (d1 : ((t.s.get h).tag == 1) = true) (hU : U64 (t.s.get h).a) (d2 : insOk (lfOk (t.s.get h).a (wrap64 (t.s.get h).b)) (lfL (t.s.get h).a (wrap64 (t.s.get h).b)) i = false) (l1 l2 : List Bool) (H1 : Hid (l1 = (lfL (t.s.get h).a (wrap64 (t.s.get h).b)).take 32)) (H2 : Hid (l2 = (lfL (t.s.get h).a (wrap64 (t.s.get h).b)).drop 32)) (e1 : l1.length ≤ 64) (e2 : l2.length ≤ 64) (d3 : decide (i ≤ (l1.length : Int)) = false) (hr : some (t.two l1 (insR true l2 (wrap64 (i - (l1.length : Int))) one)) = some r) :
    Calls Tryz.prog 191 #[.pointer (some ⟨tb,0,none⟩), .int .i64 h, .int .i64 i, .bool one] w fun e w'=>e= .returned (.int .i64 r.1)∧DidT tb ap r.2 O w w':=by
  obtain ⟨c,H3⟩: ∃c,Hid (c=insR true l2 (wrap64 (i - (l1.length:Int))) one):=⟨_,Lib.hid rfl⟩
  have e3:c.length≤64:=by rw [H3.out];exact insR_le _ _ _ _
  rw [←H3.out] at hr
  obtain rfl:=Option.some.inj hr
  clear hr
  go_enter Tryz.func191,Tryz.ntmps191
  have hA:=hT.hA
  have kt:=hT.blk
  have o_kt:=hT.no
  have c_kt:=f3 kt;have l_ktw:=lt_of kt
  go_wp2_with fail
  refine cg fun V hV_V=> ?_
  have hF:=Fr.refl ((oneX tb)) O w
  refine nef1 hV_V hA hF kt ?_;clear hA hF kt c_kt;intro z_V hA hF kt c_kt
  clear hV_V
  refine rC (bRow_calls _ _ hA) fun W1 hb_W1=> ?_
  refine bef1 hb_W1 hA hF kt ?_;clear hb_W1 hA hF kt c_kt;intro z_W1 hA hF kt c_kt
  unfold Nd.val
  go_wp2_with fail
  refine cg fun V1 hV_V1=> ?_
  refine nnf1 hV_V1 hA hF kt ?_;clear hA hF kt c_kt;intro hn_V1 z_V1 hA hF kt c_kt
  obtain ⟨kn,c_kn,o_kn,l_knV1⟩:=nN hn_V1 hV_V1 (W1.heap.size)
  clear hV_V1 hn_V1
  refine rC (bBits_calls (t.s.get h) _) fun W2 hb_W2=> ?_
  refine bef2 hb_W2 hA hF kt kn ?_;clear hb_W2 hA hF kt kn c_kt c_kn;intro z_W2 hA hF kt c_kt kn c_kn
  go_wp2_with fail
  refine cg fun V2 hV_V2=> ?_
  refine nnf2 hV_V2 hA hF kt kn ?_;clear hA hF kt kn c_kt c_kn;intro hn_V2 z_V2 hA hF kt c_kt kn c_kn
  obtain ⟨kl,c_kl,o_kl,l_klV2⟩:=nN hn_V2 hV_V2 (W2.heap.size)
  clear hV_V2 hn_V2
  refine rC (insert_i hU i one _) fun W3 hb_W3=> ?_
  refine bef3 hb_W3 hA hF kt kn kl ?_;clear hb_W3 hA hF kt kn kl c_kt c_kn c_kl;intro z_W3 hA hF kt c_kt kn c_kn kl c_kl
  go_wp2_with fail
  refine cg fun V3 hV_V3=> ?_
  refine nnf3 hV_V3 hA hF kt kn kl ?_;clear hA hF kt kn kl c_kt c_kn c_kl;intro hn_V3 z_V3 hA hF kt c_kt kn c_kn kl c_kl
  obtain ⟨kx,c_kx,o_kx,l_kxV3⟩:=nN hn_V3 hV_V3 (W3.heap.size)
  clear hV_V3 hn_V3
  refine rC (split_32 hU l1 l2 H1.out H2.out _) fun W4 hb_W4=> ?_
  refine bef4 hb_W4 hA hF kt kn kl kx ?_;clear hb_W4 hA hF kt kn kl kx c_kt c_kn c_kl c_kx;intro z_W4 hA hF kt c_kt kn c_kn kl c_kl kx c_kx
  go_wp2_with fail
  refine cg fun V4 hV_V4=> ?_
  refine nnf4 hV_V4 hA hF kt kn kl kx ?_;clear hA hF kt kn kl kx c_kt c_kn c_kl c_kx;intro hn_V4 z_V4 hA hF kt c_kt kn c_kn kl c_kl kx c_kx
  obtain ⟨ka,c_ka,o_ka,l_kaV4⟩:=nN hn_V4 hV_V4 (W4.heap.size)
  obtain ⟨kb,c_kb,o_kb,l_kbV4⟩:=nN hn_V4 hV_V4 (W4.heap.size+1)
  clear hV_V4 hn_V4
  refine rC (insert_c l2 c e2 (wrap64 (i - (l1.length:Int))) one H3.out _) fun W5 hb_W5=> ?_
  refine bef6 hb_W5 hA hF kt kn kl kx ka kb ?_;clear hb_W5 hA hF kt kn kl kx ka kb c_kt c_kn c_kl c_kx c_ka c_kb;intro z_W5 hA hF kt c_kt kn c_kn kl c_kl kx c_kx ka c_ka kb c_kb
  go_wp2_with fail
  refine cg fun V5 hV_V5=> ?_
  refine nef6 hV_V5 hA hF kt kn kl kx ka kb ?_;clear hA hF kt kn kl kx ka kb c_kt c_kn c_kl c_kx c_ka c_kb;intro z_V5 hA hF kt c_kt kn c_kn kl c_kl kx c_kx ka c_ka kb c_kb
  clear hV_V5
  refine tC (tLeaf_calls l1 e1 _ ⟨hA,kt,o_kt⟩) fun W6 O1 hT hf=> ?_
  refine ti5 hT.hA hT.blk hT.no hf hF kn o_kn kl o_kl kx o_kx ka o_ka kb o_kb ?_;clear hA hF kt c_kt o_kt kn o_kn kl o_kl kx o_kx ka o_ka kb o_kb c_kn c_kl c_kx c_ka c_kb hT hf;intro z_W6 hA hF kt c_kt o_kt kn c_kn o_kn kl c_kl o_kl kx c_kx o_kx ka c_ka o_ka kb c_kb o_kb
  go_wp2_with fail
  refine cg fun V6 hV_V6=> ?_
  refine nef6 hV_V6 hA hF kt kn kl kx ka kb ?_;clear hA hF kt kn kl kx ka kb c_kt c_kn c_kl c_kx c_ka c_kb;intro z_V6 hA hF kt c_kt kn c_kn kl c_kl kx c_kx ka c_ka kb c_kb
  clear hV_V6
  refine tC (tLeaf_calls c e3 _ ⟨hA,kt,o_kt⟩) fun W7 O2 hT hf=> ?_
  refine ti5 hT.hA hT.blk hT.no hf hF kn o_kn kl o_kl kx o_kx ka o_ka kb o_kb ?_;clear hA hF kt c_kt o_kt kn o_kn kl o_kl kx o_kx ka o_ka kb o_kb c_kn c_kl c_kx c_ka c_kb hT hf;intro z_W7 hA hF kt c_kt o_kt kn c_kn o_kn kl c_kl o_kl kx c_kx o_kx ka c_ka o_ka kb c_kb o_kb
  go_wp2_with fail
  refine cg fun V7 hV_V7=> ?_
  refine nef6 hV_V7 hA hF kt kn kl kx ka kb ?_;clear hA hF kt kn kl kx ka kb c_kt c_kn c_kl c_kx c_ka c_kb;intro z_V7 hA hF kt c_kt kn c_kn kl c_kl kx c_kx ka c_ka kb c_kb
  clear hV_V7
  refine tC (tPairOr_calls _ _ _ ⟨hA,kt,o_kt⟩) fun W8 O3 hT hf=> ?_
  refine ti5 hT.hA hT.blk hT.no hf hF kn o_kn kl o_kl kx o_kx ka o_ka kb o_kb ?_;clear hA hF kt c_kt o_kt kn o_kn kl o_kl kx o_kx ka o_ka kb o_kb c_kn c_kl c_kx c_ka c_kb hT hf;intro z_W8 hA hF kt c_kt o_kt kn c_kn o_kn kl c_kl o_kl kx c_kx o_kx ka c_ka o_ka kb c_kb o_kb
  go_wp2_with fail
  go_ret
  rw [two_def]
  exact ⟨rfl,O3,⟨hA,kt,o_kt⟩,hF⟩
theorem tIns_high (one : Bool) (k : Nat) (h i : Int) (r : Int × Tb) (w : World) (hT : TB w tb ap t O) (ih : Hid (∀ (t : Tb) (O : Nat → Prop) (h i : Int) (r : Int × Tb) (w : World), Tb.insert k t h i one = some r → TB w tb ap t O → Calls Tryz.prog 191 #[.pointer (some ⟨tb, 0, none⟩), .int .i64 h, .int .i64 i, .bool one] w fun e w' => e = .returned (.int .i64 r.1) ∧ DidT tb ap r.2 O w w')) (h1 : bIs t.s h = true) (d1 : ((t.s.get h).tag == 1) = false) (d2 : decide (bLen t.s (t.s.get h).k0 < i) = true) (hr : (((t.keep (t.s.get h).k0).insert k (t.s.get h).k1 (wrap64 (i - bLen t.s (t.s.get h).k0)) one).bind fun r => r.2.fork (t.s.get h).k0 r.1) = some r) :
    Calls Tryz.prog 191 #[.pointer (some ⟨tb,0,none⟩), .int .i64 h, .int .i64 i, .bool one] w fun e w'=>e= .returned (.int .i64 r.1)∧DidT tb ap r.2 O w w':=by
  obtain ⟨u,h_b,h_r⟩:=Option.bind_eq_some_iff.1 hr
  have Hu:=Lib.hid h_b;clear h_b hr;have hr:=h_r;clear h_r
  have Hr:=Lib.hid hr;clear hr
  go_enter Tryz.func191,Tryz.ntmps191
  have hA:=hT.hA
  have kt:=hT.blk
  have o_kt:=hT.no
  have c_kt:=f3 kt;have l_ktw:=lt_of kt
  go_wp2_with fail
  refine cg fun V hV_V=> ?_
  have hF:=Fr.refl ((oneX tb)) O w
  refine nef1 hV_V hA hF kt ?_;clear hA hF kt c_kt;intro z_V hA hF kt c_kt
  clear hV_V
  refine rC (bRow_calls _ _ hA) fun W1 hb_W1=> ?_
  refine bef1 hb_W1 hA hF kt ?_;clear hb_W1 hA hF kt c_kt;intro z_W1 hA hF kt c_kt
  unfold Nd.val
  go_wp2_with fail
  refine wg fun V1 hV_V1=> ?_
  refine nnf1 hV_V1 hA hF kt ?_;clear hA hF kt c_kt;intro hn_V1 z_V1 hA hF kt c_kt
  obtain ⟨kn,c_kn,o_kn,l_knV1⟩:=nN hn_V1 hV_V1 (W1.heap.size)
  clear hV_V1 hn_V1
  refine dr (fun v=>Sm v V1 (tb)∧Sm v V1 (W1.heap.size)∧(V1.heap.size≤v.heap.size)∧AP v ap t.s O) ⟨fun _=>rfl,fun _=>rfl,Nat.le_refl _,hA.drew⟩ fun V1d hV_V1d hHeld=> ?_
  have v_kt:=c_kt.1;have v_kn:=c_kn.1
  refine nef2 hV_V1d hA hF kt kn ?_;clear hA hF kt kn c_kt c_kn;intro z_V1d hA hF kt c_kt kn c_kn
  clear hV_V1d
  refine ta 0 hHeld ?_
  refine ta 1 hHeld ?_
  refine ta 2 hHeld ?_
  refine ta 3 hHeld ?_
  refine ta 4 hHeld ?_
  refine ta 5 hHeld ?_
  refine ta 6 hHeld ?_
  refine rd 7 rfl fun K hK=> ?_
  go_simp
  try simp only [IntWalk.i64_left]
  refine rC (bLen_calls _ _ hA) fun W2 hb_W2=> ?_
  refine bef2 hb_W2 hA hF kt kn ?_;clear hb_W2 hA hF kt kn c_kt c_kn;intro z_W2 hA hF kt c_kt kn c_kn
  refine ho hK ⟨vv c_kt v_kt,vv c_kn v_kn,by omega,hA⟩ fun hHeld=> ?_
  clear hK K
  refine rd 8 rfl fun K hK=> ?_
  go_simp
  refine ho hK hHeld fun hHeld=> ?_
  clear hK K
  refine wd ?_
  go_wp2_with fail
  refine wg fun V2 hV_V2=> ?_
  refine nef2 hV_V2 hA hF kt kn ?_;clear hA hF kt kn c_kt c_kn;intro z_V2 hA hF kt c_kt kn c_kn
  clear hV_V2
  refine dr (fun v=>(v.cell? ⟨tb,0,none⟩=V2.cell? ⟨tb,0,none⟩)∧Sm v V2 (W1.heap.size)∧(V2.heap.size≤v.heap.size)∧True) ⟨rfl,fun _=>rfl,Nat.le_refl _,trivial⟩ fun V2d hV_V2d hHeld=> ?_
  have v_kt:=c_kt.1;have v_kn:=c_kn.1
  refine nef2 hV_V2d hA hF kt kn ?_;clear hA hF kt kn c_kt c_kn;intro z_V2d hA hF kt c_kt kn c_kn
  clear hV_V2d
  refine ta 0 hHeld ?_
  refine ta 1 hHeld ?_
  refine ta 2 hHeld ?_
  refine ta 3 hHeld ?_
  refine ta 4 hHeld ?_
  refine ta 6 hHeld ?_
  refine ta 7 hHeld ?_
  refine ta 8 hHeld ?_
  refine ta 9 hHeld ?_
  refine ta 10 hHeld ?_
  refine ta 11 hHeld ?_
  refine ta 12 hHeld ?_
  refine ta 13 hHeld ?_
  refine rd 5 rfl fun K hK=> ?_
  go_simp
  try simp only [IntWalk.i64_left]
  refine tC (tKeep_calls (t:=t) (t.s.get h).k0 _ ⟨hA,kt,o_kt⟩) fun W3 O1 hT hf=> ?_
  refine ti1 hT.hA hT.blk hT.no hf hF kn o_kn ?_;clear hA hF kt c_kt o_kt kn o_kn c_kn hT hf;intro z_W3 hA hF kt c_kt o_kt kn c_kn o_kn
  refine ho hK ⟨vo c_kt v_kt 0,vv c_kn v_kn,by omega,trivial⟩ fun hHeld=> ?_
  clear hK K
  refine rd 14 rfl fun K hK=> ?_
  go_simp
  try simp only [IntWalk.i64_left]
  refine tC (ih.out (t.keep (t.s.get h).k0) _ _ _ _ _ Hu.out ⟨hA,kt,o_kt⟩) fun W4 O2 hT hf=> ?_
  refine ti1 hT.hA hT.blk hT.no hf hF kn o_kn ?_;clear hA hF kt c_kt o_kt kn o_kn c_kn hT hf;intro z_W4 hA hF kt c_kt o_kt kn c_kn o_kn
  refine ho hK ⟨vo c_kt v_kt 0,vv c_kn v_kn,by omega,trivial⟩ fun hHeld=> ?_
  clear hK K
  refine rd 15 rfl fun K hK=> ?_
  go_simp
  try simp only [IntWalk.i64_left]
  refine tC (tFork_calls (t:=u.2) _ _ _ Hr.out _ ⟨hA,kt,o_kt⟩) fun W5 O3 hT hf=> ?_
  refine ti1 hT.hA hT.blk hT.no hf hF kn o_kn ?_;clear hA hF kt c_kt o_kt kn o_kn c_kn hT hf;intro z_W5 hA hF kt c_kt o_kt kn c_kn o_kn
  refine ho hK ⟨vo c_kt v_kt 0,vv c_kn v_kn,by omega,trivial⟩ fun hHeld=> ?_
  clear hK K
  refine rd 16 rfl fun K hK=> ?_
  go_simp
  refine ho hK hHeld fun hHeld=> ?_
  clear hK K
  refine wd ?_
  go_wp2_with fail
  go_ret
  exact ⟨rfl,O3,⟨hA,kt,o_kt⟩,hF⟩
theorem tIns_low (one : Bool) (k : Nat) (h i : Int) (r : Int × Tb) (w : World) (hT : TB w tb ap t O) (ih : Hid (∀ (t : Tb) (O : Nat → Prop) (h i : Int) (r : Int × Tb) (w : World), Tb.insert k t h i one = some r → TB w tb ap t O → Calls Tryz.prog 191 #[.pointer (some ⟨tb, 0, none⟩), .int .i64 h, .int .i64 i, .bool one] w fun e w' => e = .returned (.int .i64 r.1) ∧ DidT tb ap r.2 O w w')) (h1 : bIs t.s h = true) (d1 : ((t.s.get h).tag == 1) = false) (d2 : decide (bLen t.s (t.s.get h).k0 < i) = false) (hr : ((t.insert k (t.s.get h).k0 i one).bind fun r => (r.2.keep (t.s.get h).k1).fork r.1 (t.s.get h).k1) = some r) :
    Calls Tryz.prog 191 #[.pointer (some ⟨tb,0,none⟩), .int .i64 h, .int .i64 i, .bool one] w fun e w'=>e= .returned (.int .i64 r.1)∧DidT tb ap r.2 O w w':=by
  obtain ⟨u,h_b,h_r⟩:=Option.bind_eq_some_iff.1 hr
  have Hu:=Lib.hid h_b;clear h_b hr;have hr:=h_r;clear h_r
  have Hr:=Lib.hid hr;clear hr
  go_enter Tryz.func191,Tryz.ntmps191
  have hA:=hT.hA
  have kt:=hT.blk
  have o_kt:=hT.no
  have c_kt:=f3 kt;have l_ktw:=lt_of kt
  go_wp2_with fail
  refine cg fun V hV_V=> ?_
  have hF:=Fr.refl ((oneX tb)) O w
  refine nef1 hV_V hA hF kt ?_;clear hA hF kt c_kt;intro z_V hA hF kt c_kt
  clear hV_V
  refine rC (bRow_calls _ _ hA) fun W1 hb_W1=> ?_
  refine bef1 hb_W1 hA hF kt ?_;clear hb_W1 hA hF kt c_kt;intro z_W1 hA hF kt c_kt
  unfold Nd.val
  go_wp2_with fail
  refine wg fun V1 hV_V1=> ?_
  refine nnf1 hV_V1 hA hF kt ?_;clear hA hF kt c_kt;intro hn_V1 z_V1 hA hF kt c_kt
  obtain ⟨kn,c_kn,o_kn,l_knV1⟩:=nN hn_V1 hV_V1 (W1.heap.size)
  clear hV_V1 hn_V1
  refine dr (fun v=>Sm v V1 (tb)∧Sm v V1 (W1.heap.size)∧(V1.heap.size≤v.heap.size)∧AP v ap t.s O) ⟨fun _=>rfl,fun _=>rfl,Nat.le_refl _,hA.drew⟩ fun V1d hV_V1d hHeld=> ?_
  have v_kt:=c_kt.1;have v_kn:=c_kn.1
  refine nef2 hV_V1d hA hF kt kn ?_;clear hA hF kt kn c_kt c_kn;intro z_V1d hA hF kt c_kt kn c_kn
  clear hV_V1d
  refine ta 0 hHeld ?_
  refine ta 1 hHeld ?_
  refine ta 2 hHeld ?_
  refine ta 3 hHeld ?_
  refine ta 4 hHeld ?_
  refine ta 5 hHeld ?_
  refine ta 6 hHeld ?_
  refine rd 7 rfl fun K hK=> ?_
  go_simp
  try simp only [IntWalk.i64_left]
  refine rC (bLen_calls _ _ hA) fun W2 hb_W2=> ?_
  refine bef2 hb_W2 hA hF kt kn ?_;clear hb_W2 hA hF kt kn c_kt c_kn;intro z_W2 hA hF kt c_kt kn c_kn
  refine ho hK ⟨vv c_kt v_kt,vv c_kn v_kn,by omega,hA⟩ fun hHeld=> ?_
  clear hK K
  refine rd 8 rfl fun K hK=> ?_
  go_simp
  refine ho hK hHeld fun hHeld=> ?_
  clear hK K
  refine wd ?_
  go_wp2_with fail
  refine wg fun V2 hV_V2=> ?_
  refine nef2 hV_V2 hA hF kt kn ?_;clear hA hF kt kn c_kt c_kn;intro z_V2 hA hF kt c_kt kn c_kn
  clear hV_V2
  refine dr (fun v=>(v.cell? ⟨tb,0,none⟩=V2.cell? ⟨tb,0,none⟩)∧Sm v V2 (W1.heap.size)∧(V2.heap.size≤v.heap.size)∧True) ⟨rfl,fun _=>rfl,Nat.le_refl _,trivial⟩ fun V2d hV_V2d hHeld=> ?_
  have v_kt:=c_kt.1;have v_kn:=c_kn.1
  refine nef2 hV_V2d hA hF kt kn ?_;clear hA hF kt kn c_kt c_kn;intro z_V2d hA hF kt c_kt kn c_kn
  clear hV_V2d
  refine ta 0 hHeld ?_
  refine ta 1 hHeld ?_
  refine ta 2 hHeld ?_
  refine ta 3 hHeld ?_
  refine ta 4 hHeld ?_
  refine ta 5 hHeld ?_
  refine ta 6 hHeld ?_
  refine ta 8 hHeld ?_
  refine ta 9 hHeld ?_
  refine ta 10 hHeld ?_
  refine ta 11 hHeld ?_
  refine rd 7 rfl fun K hK=> ?_
  go_simp
  try simp only [IntWalk.i64_left]
  refine tC (ih.out t _ _ _ _ _ Hu.out ⟨hA,kt,o_kt⟩) fun W3 O1 hT hf=> ?_
  refine ti1 hT.hA hT.blk hT.no hf hF kn o_kn ?_;clear hA hF kt c_kt o_kt kn o_kn c_kn hT hf;intro z_W3 hA hF kt c_kt o_kt kn c_kn o_kn
  refine ho hK ⟨vo c_kt v_kt 0,vv c_kn v_kn,by omega,trivial⟩ fun hHeld=> ?_
  clear hK K
  refine rd 12 rfl fun K hK=> ?_
  go_simp
  try simp only [IntWalk.i64_left]
  refine tC (tKeep_calls (t:=u.2) (t.s.get h).k1 _ ⟨hA,kt,o_kt⟩) fun W4 O2 hT hf=> ?_
  refine ti1 hT.hA hT.blk hT.no hf hF kn o_kn ?_;clear hA hF kt c_kt o_kt kn o_kn c_kn hT hf;intro z_W4 hA hF kt c_kt o_kt kn c_kn o_kn
  refine ho hK ⟨vo c_kt v_kt 0,vv c_kn v_kn,by omega,trivial⟩ fun hHeld=> ?_
  clear hK K
  refine rd 13 rfl fun K hK=> ?_
  go_simp
  try simp only [IntWalk.i64_left]
  refine tC (tFork_calls (t:=u.2.keep (t.s.get h).k1) _ _ _ Hr.out _ ⟨hA,kt,o_kt⟩) fun W5 O3 hT hf=> ?_
  refine ti1 hT.hA hT.blk hT.no hf hF kn o_kn ?_;clear hA hF kt c_kt o_kt kn o_kn c_kn hT hf;intro z_W5 hA hF kt c_kt o_kt kn c_kn o_kn
  refine ho hK ⟨vo c_kt v_kt 0,vv c_kn v_kn,by omega,trivial⟩ fun hHeld=> ?_
  clear hK K
  refine rd 14 rfl fun K hK=> ?_
  go_simp
  refine ho hK hHeld fun hHeld=> ?_
  clear hK K
  refine wd ?_
  go_wp2_with fail
  go_ret
  exact ⟨rfl,O3,⟨hA,kt,o_kt⟩,hF⟩
theorem tInsert_calls (one : Bool) : ∀ (k : Nat) (t : Tb) (O : Nat → Prop) (h i : Int) (r : Int × Tb) (w : World), Tb.insert k t h i one = some r → TB w tb ap t O →
    Calls Tryz.prog 191 #[.pointer (some ⟨tb,0,none⟩), .int .i64 h, .int .i64 i, .bool one] w fun e w'=>e= .returned (.int .i64 r.1)∧DidT tb ap r.2 O w w'
  | 0,t,O,h,i,r,w,hr,hT=>by cases hr
  | k+1,t,O,h,i,r,w,hr,hT=>by
    have ih:=Lib.hid (tInsert_calls one k)
    unfold Tb.insert at hr
    cases h1:bIs t.s h with
    | false=>rw [h1,if_neg (by decide)] at hr;exact tIns_nil one k h i r w hT h1 hr
    | true=>
      rw [h1,if_pos rfl] at hr
      dsimp only at hr
      by_cases h2:(t.s.get h).tag=1
      · have d1:((t.s.get h).tag==1)=true:=by simpa using h2
        have hU:=hT.hA.1.get64 h
        rw [if_pos h2] at hr
        cases h3:insOk (lfK (t.s.get h)) (lfB (t.s.get h)) i with
        | true=>rw [h3,if_pos rfl] at hr;exact tIns_fits one k h i r w hT h1 d1 hU h3 hr
        | false=>
          rw [h3,if_neg (by decide)] at hr
          obtain ⟨l1,H1⟩: ∃l1,l1=(lfL (t.s.get h).a (wrap64 (t.s.get h).b)).take 32:=⟨_,rfl⟩
          obtain ⟨l2,H2⟩: ∃l2,l2=(lfL (t.s.get h).a (wrap64 (t.s.get h).b)).drop 32:=⟨_,rfl⟩
          have e1:l1.length≤64:=by rw [H1,List.length_take];omega
          have e2:l2.length≤64:=by rw [H2,List.length_drop];have:=lfL_le (t.s.get h).a (wrap64 (t.s.get h).b);omega
          rw [show (lfB (t.s.get h)).take 32=l1 from H1.symm,show (lfB (t.s.get h)).drop 32=l2 from H2.symm] at hr
          by_cases h4:i≤(l1.length:Int)
          · rw [if_pos h4] at hr
            exact tIns_l one k h i r w hT h1 d1 hU h3 l1 l2 (Lib.hid H1) (Lib.hid H2) e1 e2 (by simpa using h4) hr
          · rw [if_neg h4] at hr
            exact tIns_r one k h i r w hT h1 d1 hU h3 l1 l2 (Lib.hid H1) (Lib.hid H2) e1 e2 (by simpa using h4) hr
      · have d1:((t.s.get h).tag==1)=false:=by simpa using h2
        rw [if_neg h2] at hr
        by_cases h5:bLen t.s (t.s.get h).k0<i
        · rw [if_pos h5] at hr
          exact tIns_high one k h i r w hT ih h1 d1 (by simpa using h5) hr
        · rw [if_neg h5] at hr
          exact tIns_low one k h i r w hT ih h1 d1 (by simpa using h5) hr
end
section
open Go.RowKit
attribute [local go_sem ↓] Go.wp_at_zero Go.wp_at_succ
attribute [local go_sem] lt_s2 lt_s3 lt_s4
variable {ap : Value} {O : Nat → Prop} {s : Ar}
theorem AP.ptr {w:World} (h:AP w ap s O): ∃q,ap= .pointer q:=by
  rcases h.2 with ⟨h,_⟩|⟨p,_,_,_,_,h,_⟩
  · exact ⟨_,h⟩
  · exact ⟨_,h⟩
theorem bInsert_calls (h i : Int) (one : Bool) (r : Int × Int × Ar) (hr : bInsert s h i one = some r) (w : World) (hA : AP w ap s O) :
    Calls Tryz.prog 78 #[ap, .int .i64 h, .int .i64 i, .bool one] w fun e w'=>e= .returned (.tuple #[.int .i64 r.1, .int .i64 r.2.1])∧Did noX ap r.2.2 O w w':=by
  obtain ⟨q,rfl⟩:=hA.ptr
  unfold bInsert at hr
  by_cases h1:i<0
  · have d1:decide (i<0)=true:=by simpa using h1
    rw [if_pos (.inl h1)] at hr
    obtain rfl:=Option.some.inj hr
    clear hr h1
    go_enter Tryz.func78,Tryz.ntmps78
    go_wp2_with fail
    go_ret2
    exact ⟨rfl,O,hA,Fr.refl _ _ _⟩
  · have d1:decide (i<0)=false:=by simpa using h1
    by_cases h2:bLen s h<i
    · have d2:decide (bLen s h<i)=true:=by simpa using h2
      rw [if_pos (.inr h2)] at hr
      obtain rfl:=Option.some.inj hr
      clear hr h1 h2
      go_enter Tryz.func78,Tryz.ntmps78
      go_wp2_with fail
      refine cg fun V hV_V=> ?_
      have hF:=Fr.refl (noX) O w
      refine nef0 hV_V hA hF ?_;clear hA hF;intro z_V hA hF
      clear hV_V
      refine rC (bLen_calls _ _ hA) fun W1 hb_W1=> ?_
      refine bef0 hb_W1 hA hF ?_;clear hb_W1 hA hF;intro z_W1 hA hF
      go_wp2_with fail
      go_ret2
      exact ⟨rfl,O,hA,hF⟩
    · have d2:decide (bLen s h<i)=false:=by simpa using h2
      rw [if_neg (by omega)] at hr
      obtain ⟨u,hu,rfl⟩:=Option.map_eq_some_iff.1 hr
      have Hu:=Lib.hid hu
      clear hr hu h1 h2
      go_enter Tryz.func78,Tryz.ntmps78
      go_wp2_with fail
      refine cg fun V hV_V=> ?_
      have hF:=Fr.refl (noX) O w
      refine nef0 hV_V hA hF ?_;clear hA hF;intro z_V hA hF
      clear hV_V
      refine rC (bLen_calls _ _ hA) fun W1 hb_W1=> ?_
      refine bef0 hb_W1 hA hF ?_;clear hb_W1 hA hF;intro z_W1 hA hF
      go_wp2_with fail
      refine cg fun V1 hV_V1=> ?_
      refine nnf0 hV_V1 hA hF ?_;clear hA hF;intro hn_V1 z_V1 hA hF
      obtain ⟨kt,c_kt,o_kt,l_ktV1⟩:=nN hn_V1 hV_V1 (W1.heap.size)
      clear hV_V1 hn_V1
      refine tC (tInsert_calls one rounds ⟨s,0⟩ _ _ _ _ _ Hu.out ⟨hA,kt,o_kt⟩) fun W2 O1 hT hf=> ?_
      refine tn0 hT.hA hT.blk hT.no hf hF ?_;clear hA hF kt c_kt o_kt hT hf;intro z_W2 hA hF kt c_kt o_kt
      go_wp2_with fail
      refine cg fun V2 hV_V2=> ?_
      refine nef1 hV_V2 hA hF kt ?_;clear hA hF kt c_kt;intro z_V2 hA hF kt c_kt
      clear hV_V2
      refine tC (tTold_calls (t:=u.2) u.1 _ ⟨hA,kt,o_kt⟩) fun W3 O2 hT hf=> ?_
      refine tn0 hT.hA hT.blk hT.no hf hF ?_;clear hA hF kt c_kt o_kt hT hf;intro z_W3 hA hF kt c_kt o_kt
      go_wp2_with fail
      go_ret2
      refine ⟨rfl,O2,?_,hF⟩
      have e:(Tb.told u).2.2=u.2.s:=by unfold Tb.told;split<;>rfl
      rw [e];exact hA
end
section
open Go.RowKit
attribute [local go_sem ↓] Go.wp_at_zero Go.wp_at_succ
attribute [local go_sem] lt_s2 lt_s3 lt_s4
attribute [local go_sem] idx0 idx1 idx2 idx3
variable {ap : Value}
theorem wIns_step (d : Nat) (hd : d + 1 ≤ 9) (s : Ar) (O : Nat → Prop) (h i c l : Int) (hl : l = 9 - ((d + 1 : Nat) : Int)) (r : Int × Int × Ar) (w : World) (one : Bool) (ho : symBit c l = one) (j : Int) (hj : wAlike s (s.get h).k0 i one = some j)
    (u:Int×Int×Ar) (he:u.2.1=0) (v:Int×Int×Ar) (hv:bInsert (u.2.2.keep ((s.get h).kid !one)) (s.get h).k0 i one=some v) (hr:r=wMade v.2.2 ⟨3,v.1,if one then (s.get h).k1 else u.1,if one then u.1 else (s.get h).k2,0,0,0⟩ v.2.1)
    (ih:Hid (∀(l':Int) (w:World),l'=wrap64 (l+1)→AP w ap s O→Calls Tryz.prog 188 #[ap, .int .i64 ((s.get h).kid one), .int .i64 j, .int .i64 c, .int .i64 l'] w fun e w'=>e= .returned (.tuple #[.int .i64 u.1, .int .i64 u.2.1])∧Did noX ap u.2.2 O w w'))
    (hA:AP w ap s O):
    Calls Tryz.prog 188 #[ap, .int .i64 h, .int .i64 i, .int .i64 c, .int .i64 l] w fun e w'=>e= .returned (.tuple #[.int .i64 r.1, .int .i64 r.2.1])∧Did noX ap r.2.2 O w w':=by
  have d1:decide (8<l)=false:=by simp;omega
  have d2:(u.2.1 !=0)=false:=by simp [he]
  have Ho:=Lib.hid ho;have Hj:=Lib.hid hj;have Hv:=Lib.hid hv;have Hr:=Lib.hid hr
  have hl0:0≤l:=by omega
  have hl1:l≤8:=by omega
  have hz:U64 0:=⟨by decide,by decide⟩
  clear ho hj hv hr he hl hd
  go_enter Tryz.func188,Tryz.ntmps188
  go_wp2_with fail
  refine cg fun V hV_V=> ?_
  have hF:=Fr.refl (noX) O w
  refine nef0 hV_V hA hF ?_;clear hA hF;intro z_V hA hF
  clear hV_V
  refine rC (wRow_calls _ _ hA) fun W1 hb_W1=> ?_
  refine bef0 hb_W1 hA hF ?_;clear hb_W1 hA hF;intro z_W1 hA hF
  unfold Nd.val
  go_wp2_with fail
  refine cg fun V1 hV_V1=> ?_
  refine nnf0 hV_V1 hA hF ?_;clear hA hF;intro hn_V1 z_V1 hA hF
  obtain ⟨kn,c_kn,o_kn,l_knV1⟩:=nN hn_V1 hV_V1 (W1.heap.size)
  clear hV_V1 hn_V1
  refine (symBit_calls _ _ _).mono ?_
  rintro e_q w_q ⟨rfl,rfl⟩
  rw [Ho.out]
  go_wp2_with fail
  refine wg fun V2 hV_V2=> ?_
  refine nnf1 hV_V2 hA hF kn ?_;clear hA hF kn c_kn;intro hn_V2 z_V2 hA hF kn c_kn
  obtain ⟨kx,c_kx,o_kx,l_kxV2⟩:=nN hn_V2 hV_V2 (V1.heap.size)
  clear hV_V2 hn_V2
  refine dr (fun v=>Sm v V2 (W1.heap.size)∧Sm v V2 (V1.heap.size)∧(V2.heap.size≤v.heap.size)∧True) ⟨fun _=>rfl,fun _=>rfl,Nat.le_refl _,trivial⟩ fun V2d hV_V2d hHeld=> ?_
  have v_kn:=c_kn.1;have v_kx:=c_kx.1
  refine nef2 hV_V2d hA hF kn kx ?_;clear hA hF kn kx c_kn c_kx;intro z_V2d hA hF kn c_kn kx c_kx
  clear hV_V2d
  refine ta 0 hHeld ?_
  refine ta 1 hHeld ?_
  refine ta 2 hHeld ?_
  refine ta 4 hHeld ?_
  refine ta 5 hHeld ?_
  refine ta 6 hHeld ?_
  refine ta 7 hHeld ?_
  refine ta 8 hHeld ?_
  refine ta 9 hHeld ?_
  refine ta 11 hHeld ?_
  refine ta 12 hHeld ?_
  refine ta 13 hHeld ?_
  refine rd 3 rfl fun K hK=> ?_
  go_simp
  try simp only [IntWalk.i64_left]
  refine rC (wKid_calls (s.get h) one _) fun W2 hb_W2=> ?_
  refine bef2 hb_W2 hA hF kn kx ?_;clear hb_W2 hA hF kn kx c_kn c_kx;intro z_W2 hA hF kn c_kn kx c_kx
  refine ho hK ⟨vv c_kn v_kn,vv c_kx v_kx,by omega,trivial⟩ fun hHeld=> ?_
  clear hK K
  refine rd 10 rfl fun K hK=> ?_
  go_simp
  try simp only [IntWalk.i64_left]
  refine rC (wAlike_calls _ _ _ _ Hj.out _ hA) fun W3 hb_W3=> ?_
  refine bef2 hb_W3 hA hF kn kx ?_;clear hb_W3 hA hF kn kx c_kn c_kx;intro z_W3 hA hF kn c_kn kx c_kx
  refine ho hK ⟨vv c_kn v_kn,vv c_kx v_kx,by omega,trivial⟩ fun hHeld=> ?_
  clear hK K
  refine rd 14 rfl fun K hK=> ?_
  go_simp
  try simp only [IntWalk.i64_left]
  refine wC (ih.out _ _ rfl hA) fun W4 O1 hA_W4 hf_W4=> ?_
  refine wif2 hf_W4 hF kn o_kn kx o_kx ?_;clear hA hF kn o_kn kx o_kx c_kn c_kx hf_W4;intro z_W4 hF kn c_kn o_kn kx c_kx o_kx;have hA:=hA_W4;clear hA_W4
  refine ho hK ⟨vv c_kn v_kn,vv c_kx v_kx,by omega,trivial⟩ fun hHeld=> ?_
  clear hK K
  refine ta 15 hHeld ?_
  refine ta 16 hHeld ?_
  refine ta 17 hHeld ?_
  refine rd 18 rfl fun K hK=> ?_
  go_simp
  refine ho hK hHeld fun hHeld=> ?_
  clear hK K
  refine rd 19 rfl fun K hK=> ?_
  go_simp
  refine ho hK hHeld fun hHeld=> ?_
  clear hK K
  refine wd ?_
  cases one with
  | true=>
    go_wp2_with fail
    refine cg fun V5 hV_V5=> ?_
    refine nef2 hV_V5 hA hF kn kx ?_;clear hA hF kn kx c_kn c_kx;intro z_V5 hA hF kn c_kn kx c_kx
    clear hV_V5
    refine rC (wKid_calls (⟨3,0,(s.get h).k1,u.1,0,0,0⟩) false _) fun W5 hb_W5=> ?_
    refine bef2 hb_W5 hA hF kn kx ?_;clear hb_W5 hA hF kn kx c_kn c_kx;intro z_W5 hA hF kn c_kn kx c_kx
    go_wp2_with fail
    refine cg fun V6 hV_V6=> ?_
    refine nef2 hV_V6 hA hF kn kx ?_;clear hA hF kn kx c_kn c_kx;intro z_V6 hA hF kn c_kn kx c_kx
    clear hV_V6
    refine wC (keep_calls ((s.get h).kid !true) _ hA) fun W6 O2 hA_W6 hf_W6=> ?_
    refine wif2 hf_W6 hF kn o_kn kx o_kx ?_;clear hA hF kn o_kn kx o_kx c_kn c_kx hf_W6;intro z_W6 hF kn c_kn o_kn kx c_kx o_kx;have hA:=hA_W6;clear hA_W6
    go_wp2_with fail
    refine cg fun V7 hV_V7=> ?_
    refine nef2 hV_V7 hA hF kn kx ?_;clear hA hF kn kx c_kn c_kx;intro z_V7 hA hF kn c_kn kx c_kx
    clear hV_V7
    refine wC (bInsert_calls _ _ _ _ Hv.out _ hA) fun W7 O3 hA_W7 hf_W7=> ?_
    refine wif2 hf_W7 hF kn o_kn kx o_kx ?_;clear hA hF kn o_kn kx o_kx c_kn c_kx hf_W7;intro z_W7 hF kn c_kn o_kn kx c_kx o_kx;have hA:=hA_W7;clear hA_W7
    go_wp2_with fail
    refine cg fun V8 hV_V8=> ?_
    refine nef2 hV_V8 hA hF kn kx ?_;clear hA hF kn kx c_kn c_kx;intro z_V8 hA hF kn c_kn kx c_kx
    clear hV_V8
    refine wC (wMade_calls (⟨3,v.1,(s.get h).k1,u.1,0,0,0⟩) hz v.2.1 _ hA) fun W8 O4 hA_W8 hf_W8=> ?_
    refine wif2 hf_W8 hF kn o_kn kx o_kx ?_;clear hA hF kn o_kn kx o_kx c_kn c_kx hf_W8;intro z_W8 hF kn c_kn o_kn kx c_kx o_kx;have hA:=hA_W8;clear hA_W8
    go_wp2_with fail
    go_ret2
    rw [Hr.out]
    exact ⟨rfl,O4,hA,hF⟩
  | false=>
    go_wp2_with fail
    refine wg fun V5 hV_V5=> ?_
    refine nef2 hV_V5 hA hF kn kx ?_;clear hA hF kn kx c_kn c_kx;intro z_V5 hA hF kn c_kn kx c_kx
    clear hV_V5
    refine dr (fun v=>Sm v V5 (W1.heap.size)∧(V5.heap.size≤v.heap.size)∧AP v ap u.2.2 O1) ⟨fun _=>rfl,Nat.le_refl _,hA.drew⟩ fun V5d hV_V5d hHeld=> ?_
    have v_kn:=c_kn.1
    refine nef2 hV_V5d hA hF kn kx ?_;clear hA hF kn kx c_kn c_kx;intro z_V5d hA hF kn c_kn kx c_kx
    clear hV_V5d
    refine ta 0 hHeld ?_
    refine ta 1 hHeld ?_
    refine ta 2 hHeld ?_
    refine ta 3 hHeld ?_
    refine ta 4 hHeld ?_
    refine ta 5 hHeld ?_
    refine ta 7 hHeld ?_
    refine rd 6 rfl fun K hK=> ?_
    go_simp
    refine ga (K:=K) fun D1 hV_D1=> ?_
    refine nef2 hV_D1 hA hF kn kx ?_;clear hA hF kn kx c_kn c_kx;intro z_D1 hA hF kn c_kn kx c_kx
    clear hV_D1
    refine ho hK ⟨vv c_kn v_kn,by omega,hA⟩ fun hHeld=> ?_
    clear hK K
    refine ta 8 hHeld ?_
    refine rd 9 rfl fun K hK=> ?_
    go_simp
    refine ga (K:=K) fun D2 hV_D2=> ?_
    refine nef2 hV_D2 hA hF kn kx ?_;clear hA hF kn kx c_kn c_kx;intro z_D2 hA hF kn c_kn kx c_kx
    clear hV_D2
    refine ho hK ⟨vv c_kn v_kn,by omega,hA⟩ fun hHeld=> ?_
    clear hK K
    refine wd ?_
    go_wp2_with fail
    refine cg fun V6 hV_V6=> ?_
    refine nef2 hV_V6 hA hF kn kx ?_;clear hA hF kn kx c_kn c_kx;intro z_V6 hA hF kn c_kn kx c_kx
    clear hV_V6
    refine rC (wKid_calls (⟨3,0,u.1,(s.get h).k2,0,0,0⟩) true _) fun W5 hb_W5=> ?_
    refine bef2 hb_W5 hA hF kn kx ?_;clear hb_W5 hA hF kn kx c_kn c_kx;intro z_W5 hA hF kn c_kn kx c_kx
    go_wp2_with fail
    refine cg fun V7 hV_V7=> ?_
    refine nef2 hV_V7 hA hF kn kx ?_;clear hA hF kn kx c_kn c_kx;intro z_V7 hA hF kn c_kn kx c_kx
    clear hV_V7
    refine wC (keep_calls ((s.get h).kid !false) _ hA) fun W6 O2 hA_W6 hf_W6=> ?_
    refine wif2 hf_W6 hF kn o_kn kx o_kx ?_;clear hA hF kn o_kn kx o_kx c_kn c_kx hf_W6;intro z_W6 hF kn c_kn o_kn kx c_kx o_kx;have hA:=hA_W6;clear hA_W6
    go_wp2_with fail
    refine cg fun V8 hV_V8=> ?_
    refine nef2 hV_V8 hA hF kn kx ?_;clear hA hF kn kx c_kn c_kx;intro z_V8 hA hF kn c_kn kx c_kx
    clear hV_V8
    refine wC (bInsert_calls _ _ _ _ Hv.out _ hA) fun W7 O3 hA_W7 hf_W7=> ?_
    refine wif2 hf_W7 hF kn o_kn kx o_kx ?_;clear hA hF kn o_kn kx o_kx c_kn c_kx hf_W7;intro z_W7 hF kn c_kn o_kn kx c_kx o_kx;have hA:=hA_W7;clear hA_W7
    go_wp2_with fail
    refine cg fun V9 hV_V9=> ?_
    refine nef2 hV_V9 hA hF kn kx ?_;clear hA hF kn kx c_kn c_kx;intro z_V9 hA hF kn c_kn kx c_kx
    clear hV_V9
    refine wC (wMade_calls (⟨3,v.1,u.1,(s.get h).k2,0,0,0⟩) hz v.2.1 _ hA) fun W8 O4 hA_W8 hf_W8=> ?_
    refine wif2 hf_W8 hF kn o_kn kx o_kx ?_;clear hA hF kn o_kn kx o_kx c_kn c_kx hf_W8;intro z_W8 hF kn c_kn o_kn kx c_kx o_kx;have hA:=hA_W8;clear hA_W8
    go_wp2_with fail
    go_ret2
    rw [Hr.out]
    exact ⟨rfl,O4,hA,hF⟩
theorem wIns_err (d : Nat) (hd : d + 1 ≤ 9) (s : Ar) (O : Nat → Prop) (h i c l : Int) (hl : l = 9 - ((d + 1 : Nat) : Int)) (r : Int × Int × Ar) (w : World) (one : Bool) (ho : symBit c l = one) (j : Int) (hj : wAlike s (s.get h).k0 i one = some j)
    (u:Int×Int×Ar) (he: ¬u.2.1=0) (hr:r=(0,u.2.1,u.2.2))
    (ih:Hid (∀(l':Int) (w:World),l'=wrap64 (l+1)→AP w ap s O→Calls Tryz.prog 188 #[ap, .int .i64 ((s.get h).kid one), .int .i64 j, .int .i64 c, .int .i64 l'] w fun e w'=>e= .returned (.tuple #[.int .i64 u.1, .int .i64 u.2.1])∧Did noX ap u.2.2 O w w'))
    (hA:AP w ap s O):
    Calls Tryz.prog 188 #[ap, .int .i64 h, .int .i64 i, .int .i64 c, .int .i64 l] w fun e w'=>e= .returned (.tuple #[.int .i64 r.1, .int .i64 r.2.1])∧Did noX ap r.2.2 O w w':=by
  have d1:decide (8<l)=false:=by simp;omega
  have d2:(u.2.1 !=0)=true:=by simp [he]
  have Ho:=Lib.hid ho;have Hj:=Lib.hid hj;have Hr:=Lib.hid hr
  have hl0:0≤l:=by omega
  have hl1:l≤8:=by omega
  have hz:U64 0:=⟨by decide,by decide⟩
  clear ho hj hr he hl hd
  go_enter Tryz.func188,Tryz.ntmps188
  go_wp2_with fail
  refine cg fun V hV_V=> ?_
  have hF:=Fr.refl (noX) O w
  refine nef0 hV_V hA hF ?_;clear hA hF;intro z_V hA hF
  clear hV_V
  refine rC (wRow_calls _ _ hA) fun W1 hb_W1=> ?_
  refine bef0 hb_W1 hA hF ?_;clear hb_W1 hA hF;intro z_W1 hA hF
  unfold Nd.val
  go_wp2_with fail
  refine cg fun V1 hV_V1=> ?_
  refine nnf0 hV_V1 hA hF ?_;clear hA hF;intro hn_V1 z_V1 hA hF
  obtain ⟨kn,c_kn,o_kn,l_knV1⟩:=nN hn_V1 hV_V1 (W1.heap.size)
  clear hV_V1 hn_V1
  refine (symBit_calls _ _ _).mono ?_
  rintro e_q w_q ⟨rfl,rfl⟩
  rw [Ho.out]
  go_wp2_with fail
  refine wg fun V2 hV_V2=> ?_
  refine nnf1 hV_V2 hA hF kn ?_;clear hA hF kn c_kn;intro hn_V2 z_V2 hA hF kn c_kn
  obtain ⟨kx,c_kx,o_kx,l_kxV2⟩:=nN hn_V2 hV_V2 (V1.heap.size)
  clear hV_V2 hn_V2
  refine dr (fun v=>Sm v V2 (W1.heap.size)∧Sm v V2 (V1.heap.size)∧(V2.heap.size≤v.heap.size)∧True) ⟨fun _=>rfl,fun _=>rfl,Nat.le_refl _,trivial⟩ fun V2d hV_V2d hHeld=> ?_
  have v_kn:=c_kn.1;have v_kx:=c_kx.1
  refine nef2 hV_V2d hA hF kn kx ?_;clear hA hF kn kx c_kn c_kx;intro z_V2d hA hF kn c_kn kx c_kx
  clear hV_V2d
  refine ta 0 hHeld ?_
  refine ta 1 hHeld ?_
  refine ta 2 hHeld ?_
  refine ta 4 hHeld ?_
  refine ta 5 hHeld ?_
  refine ta 6 hHeld ?_
  refine ta 7 hHeld ?_
  refine ta 8 hHeld ?_
  refine ta 9 hHeld ?_
  refine ta 11 hHeld ?_
  refine ta 12 hHeld ?_
  refine ta 13 hHeld ?_
  refine rd 3 rfl fun K hK=> ?_
  go_simp
  try simp only [IntWalk.i64_left]
  refine rC (wKid_calls (s.get h) one _) fun W2 hb_W2=> ?_
  refine bef2 hb_W2 hA hF kn kx ?_;clear hb_W2 hA hF kn kx c_kn c_kx;intro z_W2 hA hF kn c_kn kx c_kx
  refine ho hK ⟨vv c_kn v_kn,vv c_kx v_kx,by omega,trivial⟩ fun hHeld=> ?_
  clear hK K
  refine rd 10 rfl fun K hK=> ?_
  go_simp
  try simp only [IntWalk.i64_left]
  refine rC (wAlike_calls _ _ _ _ Hj.out _ hA) fun W3 hb_W3=> ?_
  refine bef2 hb_W3 hA hF kn kx ?_;clear hb_W3 hA hF kn kx c_kn c_kx;intro z_W3 hA hF kn c_kn kx c_kx
  refine ho hK ⟨vv c_kn v_kn,vv c_kx v_kx,by omega,trivial⟩ fun hHeld=> ?_
  clear hK K
  refine rd 14 rfl fun K hK=> ?_
  go_simp
  try simp only [IntWalk.i64_left]
  refine wC (ih.out _ _ rfl hA) fun W4 O1 hA_W4 hf_W4=> ?_
  refine wif2 hf_W4 hF kn o_kn kx o_kx ?_;clear hA hF kn o_kn kx o_kx c_kn c_kx hf_W4;intro z_W4 hF kn c_kn o_kn kx c_kx o_kx;have hA:=hA_W4;clear hA_W4
  refine ho hK ⟨vv c_kn v_kn,vv c_kx v_kx,by omega,trivial⟩ fun hHeld=> ?_
  clear hK K
  refine ta 15 hHeld ?_
  refine ta 16 hHeld ?_
  refine ta 17 hHeld ?_
  refine rd 18 rfl fun K hK=> ?_
  go_simp
  refine ho hK hHeld fun hHeld=> ?_
  clear hK K
  refine rd 19 rfl fun K hK=> ?_
  go_simp
  refine ho hK hHeld fun hHeld=> ?_
  clear hK K
  refine wd ?_
  go_wp2_with fail
  go_ret2
  rw [Hr.out]
  exact ⟨rfl,O1,hA,hF⟩
theorem wIns_end (s : Ar) (O : Nat → Prop) (h i c : Int) (w : World) (hA : AP w ap s O) :
    Calls Tryz.prog 188 #[ap, .int .i64 h, .int .i64 i, .int .i64 c, .int .i64 9] w fun e w'=>e= .returned (.tuple #[.int .i64 0, .int .i64 0])∧Did noX ap s O w w':=by
  go_enter Tryz.func188,Tryz.ntmps188
  go_wp2_with fail
  go_ret2
  exact ⟨rfl,O,hA,Fr.refl _ _ _⟩
theorem wIns_calls : ∀ (d : Nat) (hd : d ≤ 9) (s : Ar) (O : Nat → Prop) (h i c l : Int) (hl : l = 9 - (d : Int)) (r : Int × Int × Ar) (hr : wInsertL d s h i c = some r) (w : World) (hA : AP w ap s O),
    Calls Tryz.prog 188 #[ap, .int .i64 h, .int .i64 i, .int .i64 c, .int .i64 l] w fun e w'=>e= .returned (.tuple #[.int .i64 r.1, .int .i64 r.2.1])∧Did noX ap r.2.2 O w w'
  | 0,hd,s,O,h,i,c,l,hl,r,hr,w,hA=>by
    obtain rfl:l=9:=by simpa using hl
    unfold wInsertL at hr
    obtain rfl:=Option.some.inj hr
    exact wIns_end s O h i c w hA
  | d+1,hd,s,O,h,i,c,l,hl,r,hr,w,hA=>by
    unfold wInsertL at hr
    dsimp only at hr
    obtain ⟨j,hj,hr⟩:=Option.bind_eq_some_iff.1 hr
    obtain ⟨u,hu,hr⟩:=Option.bind_eq_some_iff.1 hr
    have hl':l=8 - (d:Int):=by omega
    have hw:wrap64 (l+1)=9 - (d:Int):=by rw [IntWalk.wrap64_in _ (by omega)];omega
    have ih:Hid (∀(l':Int) (w:World),l'=wrap64 (l+1)→AP w ap s O→Calls Tryz.prog 188 #[ap, .int .i64 ((s.get h).kid (symBit c l)), .int .i64 j, .int .i64 c, .int .i64 l'] w fun e w'=>e= .returned (.tuple #[.int .i64 u.1, .int .i64 u.2.1])∧Did noX ap u.2.2 O w w'):=by
      refine Lib.hid fun l' w hl2 hA=> ?_
      rw [hl'] at*
      exact wIns_calls d (by omega) s O _ j c l' (by rw [hl2,hw]) u hu w hA
    by_cases he:u.2.1=0
    · rw [if_pos he] at hr
      obtain ⟨v,hv,hr⟩:=Option.bind_eq_some_iff.1 hr
      have hr:=(Option.some.inj hr).symm
      rw [←hl'] at hj hv hr
      exact wIns_step d hd s O h i c l hl r w _ rfl j hj u he v hv hr ih hA
    · rw [if_neg he] at hr
      have hr:=(Option.some.inj hr).symm
      rw [←hl'] at hj
      exact wIns_err d hd s O h i c l hl r w _ rfl j hj u he hr ih hA
theorem wInsert_calls (s : Ar) (O : Nat → Prop) (h i x : Int) (r : Int × Int × Ar) (hr : wInsert s h i x = some r) (w : World) (hA : AP w ap s O) :
    Calls Tryz.prog 77 #[ap, .int .i64 h, .int .i64 i, .int .i64 x] w fun e w'=>e= .returned (.tuple #[.int .i64 r.1, .int .i64 r.2.1])∧Did noX ap r.2.2 O w w':=by
  unfold wInsert at hr
  cases h0:wIs x with
  | false=>
    rw [h0,if_neg (by decide)] at hr
    obtain rfl:=Option.some.inj hr
    clear hr
    go_enter Tryz.func77,Tryz.ntmps77
    go_wp2_with fail
    refine cg fun V hV_V=> ?_
    have hF:=Fr.refl (noX) O w
    refine nef0 hV_V hA hF ?_;clear hA hF;intro z_V hA hF
    clear hV_V
    refine (wIs_calls _ _).mono ?_
    rintro e_q w_q ⟨rfl,rfl⟩
    rw [h0]
    go_wp2_with fail
    go_ret2
    exact ⟨rfl,O,hA,hF⟩
  | true=>
    rw [h0,if_pos rfl] at hr
    by_cases h1:i<0
    · have d1:decide (i<0)=true:=by simpa using h1
      rw [if_pos (.inl h1)] at hr
      obtain rfl:=Option.some.inj hr
      clear hr h1
      go_enter Tryz.func77,Tryz.ntmps77
      go_wp2_with fail
      refine cg fun V hV_V=> ?_
      have hF:=Fr.refl (noX) O w
      refine nef0 hV_V hA hF ?_;clear hA hF;intro z_V hA hF
      clear hV_V
      refine (wIs_calls _ _).mono ?_
      rintro e_q w_q ⟨rfl,rfl⟩
      rw [h0]
      go_wp2_with fail
      go_ret2
      exact ⟨rfl,O,hA,hF⟩
    · have d1:decide (i<0)=false:=by simpa using h1
      by_cases h2:wLen s h<i
      · have d2:decide (wLen s h<i)=true:=by simpa using h2
        rw [if_pos (.inr h2)] at hr
        obtain rfl:=Option.some.inj hr
        clear hr h1 h2
        go_enter Tryz.func77,Tryz.ntmps77
        go_wp2_with fail
        refine cg fun V hV_V=> ?_
        have hF:=Fr.refl (noX) O w
        refine nef0 hV_V hA hF ?_;clear hA hF;intro z_V hA hF
        clear hV_V
        refine (wIs_calls _ _).mono ?_
        rintro e_q w_q ⟨rfl,rfl⟩
        rw [h0]
        go_wp2_with fail
        refine cg fun V1 hV_V1=> ?_
        refine nef0 hV_V1 hA hF ?_;clear hA hF;intro z_V1 hA hF
        clear hV_V1
        refine rC (wLen_calls _ _ hA) fun W2 hb_W2=> ?_
        refine bef0 hb_W2 hA hF ?_;clear hb_W2 hA hF;intro z_W2 hA hF
        go_wp2_with fail
        go_ret2
        exact ⟨rfl,O,hA,hF⟩
      · have d2:decide (wLen s h<i)=false:=by simpa using h2
        rw [if_neg (by omega)] at hr
        have Hr:=Lib.hid hr
        clear hr h1 h2
        go_enter Tryz.func77,Tryz.ntmps77
        go_wp2_with fail
        refine cg fun V hV_V=> ?_
        have hF:=Fr.refl (noX) O w
        refine nef0 hV_V hA hF ?_;clear hA hF;intro z_V hA hF
        clear hV_V
        refine (wIs_calls _ _).mono ?_
        rintro e_q w_q ⟨rfl,rfl⟩
        rw [h0]
        go_wp2_with fail
        refine cg fun V1 hV_V1=> ?_
        refine nef0 hV_V1 hA hF ?_;clear hA hF;intro z_V1 hA hF
        clear hV_V1
        refine rC (wLen_calls _ _ hA) fun W2 hb_W2=> ?_
        refine bef0 hb_W2 hA hF ?_;clear hb_W2 hA hF;intro z_W2 hA hF
        go_wp2_with fail
        refine cg fun V2 hV_V2=> ?_
        refine nef0 hV_V2 hA hF ?_;clear hA hF;intro z_V2 hA hF
        clear hV_V2
        refine wC (wIns_calls 9 (by omega) s O _ _ _ _ (by rfl) _ Hr.out _ hA) fun W3 O1 hA_W3 hf_W3=> ?_
        refine wif0 hf_W3 hF ?_;clear hA hF hf_W3;intro z_W3 hF;have hA:=hA_W3;clear hA_W3
        go_wp2_with fail
        go_ret2
        exact ⟨rfl,O1,hA,hF⟩
end
section
open Go.RowKit
attribute [local go_sem ↓] Go.wp_at_zero Go.wp_at_succ
attribute [local go_sem] lt_s2 lt_s3 lt_s4
attribute [local go_sem] idx0 idx1 idx2 idx3
structure LB (w:World) (tb:Nat) (ap:Value) (t:Tb) (O:Nat→Prop):Prop where
  hA:AP w ap t.s O
  blk:w.heap[tb]? =some (.cells #[ap, .int .i64 t.e] 237 (0,0))
  no: ¬O tb
def DidL (tb:Nat) (ap:Value) (t':Tb) (O:Nat→Prop) (w w':World):Prop:= ∃O',LB w' tb ap t' O'∧Fr (oneX tb) O O' w w'
variable {ap : Value} {O : Nat → Prop} {tb : Nat} {t : Tb} {s : Ar}
theorem lLen_calls (h : Int) (w : World) (hA : AP w ap s O) :
    Calls Tryz.prog 192 #[ap, .int .i64 h] w fun e w'=>e= .returned (.int .i64 (lLen s h))∧Below w.heap.size w w':=by
  unfold lLen
  cases h1:lIs s h with
  | false=>
    go_enter Tryz.func192,Tryz.ntmps192
    go_wp2_with fail
    refine cg fun V hV_V=> ?_
    have hB:=Below.refl w.heap.size w
    refine nea0 hV_V hA hB ?_;clear hA hB;intro z_V hA hB
    clear hV_V
    refine rC (lRow_calls _ _ hA) fun w1 hb_w1=> ?_
    refine bea0 hb_w1 hA hB ?_;clear hb_w1 hA hB;intro z_w1 hA hB
    unfold Nd.val
    go_wp2_with fail
    go_ret
    exact ⟨rfl,bel⟩
  | true=>
    rw [if_pos rfl]
    by_cases h2:(s.get h).tag=4
    · have d1:((s.get h).tag==4)=true:=by simpa using h2
      rw [if_pos h2]
      clear h2
      go_enter Tryz.func192,Tryz.ntmps192
      go_wp2_with fail
      refine cg fun V hV_V=> ?_
      have hB:=Below.refl w.heap.size w
      refine nea0 hV_V hA hB ?_;clear hA hB;intro z_V hA hB
      clear hV_V
      refine rC (lRow_calls _ _ hA) fun w1 hb_w1=> ?_
      refine bea0 hb_w1 hA hB ?_;clear hb_w1 hA hB;intro z_w1 hA hB
      unfold Nd.val
      go_wp2_with fail
      go_ret
      exact ⟨rfl,bel⟩
    · have d1:((s.get h).tag==4)=false:=by simpa using h2
      rw [if_neg h2]
      clear h2
      go_enter Tryz.func192,Tryz.ntmps192
      go_wp2_with fail
      refine cg fun V hV_V=> ?_
      have hB:=Below.refl w.heap.size w
      refine nea0 hV_V hA hB ?_;clear hA hB;intro z_V hA hB
      clear hV_V
      refine rC (lRow_calls _ _ hA) fun w1 hb_w1=> ?_
      refine bea0 hb_w1 hA hB ?_;clear hb_w1 hA hB;intro z_w1 hA hB
      unfold Nd.val
      go_wp2_with fail
      go_ret
      exact ⟨rfl,bel⟩
theorem lKeep_calls (h : Int) (w : World) (hT : LB w tb ap t O) :
    Calls Tryz.prog 199 #[.pointer (some ⟨tb,0,none⟩), .int .i64 h] w fun e w'=>e= .returned (.int .i64 h)∧DidL tb ap (t.keep h) O w w':=by
  go_enter Tryz.func199,Tryz.ntmps199
  have hA:=hT.hA
  have kt:=hT.blk
  have o_kt:=hT.no
  have c_kt:=f3 kt;have l_ktw:=lt_of kt
  go_wp2_with fail
  refine cg fun V hV_V=> ?_
  have hF:=Fr.refl (oneX tb) O w
  refine nef1 hV_V hA hF kt ?_;clear hA hF kt c_kt;intro z_V hA hF kt c_kt
  clear hV_V
  refine wC (keep_calls _ _ hA) fun W O1 hA_W hf_W=> ?_
  refine wif1 hf_W hF kt o_kt ?_;clear hA hF kt o_kt c_kt hf_W;intro z_W hF kt c_kt o_kt;have hA:=hA_W;clear hA_W
  go_wp2_with fail
  go_ret
  refine ⟨rfl,O1,⟨hA,kt,o_kt⟩,hF⟩
theorem lNode_calls (n : Nd) (hn : U64 n.a) (w : World) (hT : LB w tb ap t O) :
    Calls Tryz.prog 265 #[.pointer (some ⟨tb,0,none⟩),n.val] w fun e w'=>e= .returned (.int .i64 (t.lnode n).1)∧DidL tb ap (t.lnode n).2 O w w':=by
  by_cases he:t.e=0
  · have d1:(t.e==0)=true:=by simpa using he
    have e1:Hid (t.lnode n=((t.s.make n).1,⟨((t.s.make n).2.2.drop n.k0).drop n.k1,(t.s.make n).2.1⟩)):=by
      show _=_
      unfold Tb.lnode Tb.nodeD;rw [if_pos he];rfl
    clear he
    unfold Nd.val
    go_enter Tryz.func265,Tryz.ntmps265
    have hA:=hT.hA
    have kt:=hT.blk
    have o_kt:=hT.no
    have c_kt:=f3 kt;have l_ktw:=lt_of kt
    go_wp2_with fail
    refine wg fun V hV_V=> ?_
    have hF:=Fr.refl ((oneX tb)) O w
    refine nnf1 hV_V hA hF kt ?_;clear hA hF kt c_kt;intro hn_V z_V hA hF kt c_kt
    obtain ⟨kn,c_kn,o_kn,l_knV⟩:=nN hn_V hV_V (w.heap.size)
    clear hV_V hn_V
    refine dr (fun v=>(v.cell? ⟨tb,0,none⟩=V.cell? ⟨tb,0,none⟩)∧Sm v V (w.heap.size)∧(V.heap.size≤v.heap.size)∧True) ⟨rfl,fun _=>rfl,Nat.le_refl _,trivial⟩ fun Vd hV_Vd hHeld=> ?_
    have v_kt:=c_kt.1;have v_kn:=c_kn.1
    refine nef2 hV_Vd hA hF kt kn ?_;clear hA hF kt kn c_kt c_kn;intro z_Vd hA hF kt c_kt kn c_kn
    clear hV_Vd
    refine ta 0 hHeld ?_
    refine ta 1 hHeld ?_
    refine ta 2 hHeld ?_
    refine ta 3 hHeld ?_
    refine ta 4 hHeld ?_
    refine ta 5 hHeld ?_
    refine rd 6 rfl fun K hK=> ?_
    go_simp
    try simp only [IntWalk.i64_left]
    refine wC (make_calls n hn _ hA) fun W O1 hA_W hf_W=> ?_
    refine wif2 hf_W hF kt o_kt kn o_kn ?_;clear hA hF kt o_kt kn o_kn c_kt c_kn hf_W;intro z_W hF kt c_kt o_kt kn c_kn o_kn;have hA:=hA_W;clear hA_W
    refine ho hK ⟨vo c_kt v_kt 0,vv c_kn v_kn,by omega,trivial⟩ fun hHeld=> ?_
    clear hK K
    refine ta 7 hHeld ?_
    refine ta 8 hHeld ?_
    refine ta 9 hHeld ?_
    refine rd 10 rfl fun K hK=> ?_
    go_simp
    refine ho hK hHeld fun hHeld=> ?_
    clear hK K
    refine ta 11 hHeld ?_
    refine ta 12 hHeld ?_
    refine rd 13 rfl fun K hK=> ?_
    go_simp
    refine ga (K:=K) fun D hV_D=> ?_
    refine nef2 hV_D hA hF kt kn ?_;clear hA hF kt kn c_kt c_kn;intro z_D hA hF kt c_kt kn c_kn
    clear hV_D
    refine ho hK ⟨vo c_kt v_kt 0,vv c_kn v_kn,by omega,trivial⟩ fun hHeld=> ?_
    clear hK K
    refine wd ?_
    go_wp2_with fail
    refine wg fun D1 hV_D1=> ?_
    refine nef2 hV_D1 hA hF kt kn ?_;clear hA hF kt kn c_kt c_kn;intro z_D1 hA hF kt c_kt kn c_kn
    clear hV_D1
    refine dr (fun v=>Sm v D1 (tb)∧Sm v D1 (w.heap.size)∧(D1.heap.size≤v.heap.size)∧True) ⟨fun _=>rfl,fun _=>rfl,Nat.le_refl _,trivial⟩ fun D1d hV_D1d hHeld=> ?_
    have v_kt:=c_kt.1;have v_kn:=c_kn.1
    refine nef2 hV_D1d hA hF kt kn ?_;clear hA hF kt kn c_kt c_kn;intro z_D1d hA hF kt c_kt kn c_kn
    clear hV_D1d
    refine ta 0 hHeld ?_
    refine ta 1 hHeld ?_
    refine ta 2 hHeld ?_
    refine ta 3 hHeld ?_
    refine ta 4 hHeld ?_
    refine ta 5 hHeld ?_
    refine ta 6 hHeld ?_
    refine rd 7 rfl fun K hK=> ?_
    go_simp
    try simp only [IntWalk.i64_left]
    refine wC (drop_calls _ _ hA) fun W2 O2 hA_W2 hf_W2=> ?_
    refine wif2 hf_W2 hF kt o_kt kn o_kn ?_;clear hA hF kt o_kt kn o_kn c_kt c_kn hf_W2;intro z_W2 hF kt c_kt o_kt kn c_kn o_kn;have hA:=hA_W2;clear hA_W2
    refine ho hK ⟨vv c_kt v_kt,vv c_kn v_kn,by omega,trivial⟩ fun hHeld=> ?_
    clear hK K
    refine wd ?_
    go_wp2_with fail
    refine wg fun D2 hV_D2=> ?_
    refine nef2 hV_D2 hA hF kt kn ?_;clear hA hF kt kn c_kt c_kn;intro z_D2 hA hF kt c_kt kn c_kn
    clear hV_D2
    refine dr (fun v=>Sm v D2 (tb)∧Sm v D2 (w.heap.size)∧(D2.heap.size≤v.heap.size)∧True) ⟨fun _=>rfl,fun _=>rfl,Nat.le_refl _,trivial⟩ fun D2d hV_D2d hHeld=> ?_
    have v_kt:=c_kt.1;have v_kn:=c_kn.1
    refine nef2 hV_D2d hA hF kt kn ?_;clear hA hF kt kn c_kt c_kn;intro z_D2d hA hF kt c_kt kn c_kn
    clear hV_D2d
    refine ta 0 hHeld ?_
    refine ta 1 hHeld ?_
    refine ta 2 hHeld ?_
    refine ta 3 hHeld ?_
    refine ta 4 hHeld ?_
    refine ta 5 hHeld ?_
    refine ta 6 hHeld ?_
    refine rd 7 rfl fun K hK=> ?_
    go_simp
    try simp only [IntWalk.i64_left]
    refine wC (drop_calls _ _ hA) fun W3 O3 hA_W3 hf_W3=> ?_
    refine wif2 hf_W3 hF kt o_kt kn o_kn ?_;clear hA hF kt o_kt kn o_kn c_kt c_kn hf_W3;intro z_W3 hF kt c_kt o_kt kn c_kn o_kn;have hA:=hA_W3;clear hA_W3
    refine ho hK ⟨vv c_kt v_kt,vv c_kn v_kn,by omega,trivial⟩ fun hHeld=> ?_
    clear hK K
    refine wd ?_
    go_wp2_with fail
    go_ret
    refine ⟨by rw [e1.out];rfl,?_⟩
    rw [e1.out]
    exact ⟨O3,⟨hA,kt,o_kt⟩,hF⟩
  · have d1:(t.e==0)=false:=by simpa using he
    have e1:Hid (t.lnode n=(0,⟨(t.s.drop n.k0).drop n.k1,t.e⟩)):=by
      show _=_
      unfold Tb.lnode Tb.nodeD;rw [if_neg he];rfl
    clear he
    unfold Nd.val
    go_enter Tryz.func265,Tryz.ntmps265
    have hA:=hT.hA
    have kt:=hT.blk
    have o_kt:=hT.no
    have c_kt:=f3 kt;have l_ktw:=lt_of kt
    go_wp2_with fail
    refine wg fun D1 hV_D1=> ?_
    have hF:=Fr.refl ((oneX tb)) O w
    refine nnf1 hV_D1 hA hF kt ?_;clear hA hF kt c_kt;intro hn_D1 z_D1 hA hF kt c_kt
    obtain ⟨kn,c_kn,o_kn,l_knD1⟩:=nN hn_D1 hV_D1 (w.heap.size)
    clear hV_D1 hn_D1
    refine dr (fun v=>Sm v D1 (tb)∧Sm v D1 (w.heap.size)∧(D1.heap.size≤v.heap.size)∧True) ⟨fun _=>rfl,fun _=>rfl,Nat.le_refl _,trivial⟩ fun D1d hV_D1d hHeld=> ?_
    have v_kt:=c_kt.1;have v_kn:=c_kn.1
    refine nef2 hV_D1d hA hF kt kn ?_;clear hA hF kt kn c_kt c_kn;intro z_D1d hA hF kt c_kt kn c_kn
    clear hV_D1d
    refine ta 0 hHeld ?_
    refine ta 1 hHeld ?_
    refine ta 2 hHeld ?_
    refine ta 3 hHeld ?_
    refine ta 4 hHeld ?_
    refine ta 5 hHeld ?_
    refine ta 6 hHeld ?_
    refine rd 7 rfl fun K hK=> ?_
    go_simp
    try simp only [IntWalk.i64_left]
    refine wC (drop_calls _ _ hA) fun W2 O2 hA_W2 hf_W2=> ?_
    refine wif2 hf_W2 hF kt o_kt kn o_kn ?_;clear hA hF kt o_kt kn o_kn c_kt c_kn hf_W2;intro z_W2 hF kt c_kt o_kt kn c_kn o_kn;have hA:=hA_W2;clear hA_W2
    refine ho hK ⟨vv c_kt v_kt,vv c_kn v_kn,by omega,trivial⟩ fun hHeld=> ?_
    clear hK K
    refine wd ?_
    go_wp2_with fail
    refine wg fun D2 hV_D2=> ?_
    refine nef2 hV_D2 hA hF kt kn ?_;clear hA hF kt kn c_kt c_kn;intro z_D2 hA hF kt c_kt kn c_kn
    clear hV_D2
    refine dr (fun v=>Sm v D2 (tb)∧Sm v D2 (w.heap.size)∧(D2.heap.size≤v.heap.size)∧True) ⟨fun _=>rfl,fun _=>rfl,Nat.le_refl _,trivial⟩ fun D2d hV_D2d hHeld=> ?_
    have v_kt:=c_kt.1;have v_kn:=c_kn.1
    refine nef2 hV_D2d hA hF kt kn ?_;clear hA hF kt kn c_kt c_kn;intro z_D2d hA hF kt c_kt kn c_kn
    clear hV_D2d
    refine ta 0 hHeld ?_
    refine ta 1 hHeld ?_
    refine ta 2 hHeld ?_
    refine ta 3 hHeld ?_
    refine ta 4 hHeld ?_
    refine ta 5 hHeld ?_
    refine ta 6 hHeld ?_
    refine rd 7 rfl fun K hK=> ?_
    go_simp
    try simp only [IntWalk.i64_left]
    refine wC (drop_calls _ _ hA) fun W3 O3 hA_W3 hf_W3=> ?_
    refine wif2 hf_W3 hF kt o_kt kn o_kn ?_;clear hA hF kt o_kt kn o_kn c_kt c_kn hf_W3;intro z_W3 hF kt c_kt o_kt kn c_kn o_kn;have hA:=hA_W3;clear hA_W3
    refine ho hK ⟨vv c_kt v_kt,vv c_kn v_kn,by omega,trivial⟩ fun hHeld=> ?_
    clear hK K
    refine wd ?_
    go_wp2_with fail
    go_ret
    refine ⟨by rw [e1.out];rfl,?_⟩
    rw [e1.out]
    exact ⟨O3,⟨hA,kt,o_kt⟩,hF⟩
theorem lItem_calls (x : Int × Int) (w : World) (hT : LB w tb ap t O) :
    Calls Tryz.prog 197 #[.pointer (some ⟨tb,0,none⟩), .agg #[.int .i64 x.1, .int .i64 x.2]] w fun e w'=>e= .returned (.int .i64 (t.item x).1)∧DidL tb ap (t.item x).2 O w w':=by
  go_enter Tryz.func197,Tryz.ntmps197
  have hA:=hT.hA
  have kt:=hT.blk
  have o_kt:=hT.no
  have c_kt:=f3 kt;have l_ktw:=lt_of kt
  go_wp2_with fail
  refine cg fun D1 hV_D1=> ?_
  have hF:=Fr.refl ((oneX tb)) O w
  refine nnf1 hV_D1 hA hF kt ?_;clear hA hF kt c_kt;intro hn_D1 z_D1 hA hF kt c_kt
  obtain ⟨kn,c_kn,o_kn,l_knD1⟩:=nN hn_D1 hV_D1 (w.heap.size)
  clear hV_D1 hn_D1
  refine tC (lNode_calls ⟨4,0,0,0,0,u64 x.1,u64 x.2⟩ (U64.u64 _) _ ⟨hA,kt,o_kt⟩) fun W2 O2 hT hf=> ?_
  refine ti1 hT.hA hT.blk hT.no hf hF kn o_kn ?_;clear hA hF kt c_kt o_kt kn o_kn c_kn hT hf;intro z_W2 hA hF kt c_kt o_kt kn c_kn o_kn
  go_wp2_with fail
  go_ret
  exact ⟨rfl,O2,⟨hA,kt,o_kt⟩,hF⟩
theorem lPair_calls (x y : Int) (w : World) (hT : LB w tb ap t O) :
    Calls Tryz.prog 268 #[.pointer (some ⟨tb,0,none⟩), .int .i64 x, .int .i64 y] w fun e w'=>e= .returned (.int .i64 (t.lpair x y).1)∧DidL tb ap (t.lpair x y).2 O w w':=by
  have hu:U64 (u64 (wrap64 (lLen t.s x+lLen t.s y))):=U64.u64 _
  go_enter Tryz.func268,Tryz.ntmps268
  have hA:=hT.hA
  have kt:=hT.blk
  have o_kt:=hT.no
  have c_kt:=f3 kt;have l_ktw:=lt_of kt
  go_wp2_with fail
  refine wg fun V hV_V=> ?_
  have hF:=Fr.refl ((oneX tb)) O w
  refine nef1 hV_V hA hF kt ?_;clear hA hF kt c_kt;intro z_V hA hF kt c_kt
  clear hV_V
  refine dr (fun v=>(v.cell? ⟨tb,0,none⟩=V.cell? ⟨tb,0,none⟩)∧(V.heap.size≤v.heap.size)∧True) ⟨rfl,Nat.le_refl _,trivial⟩ fun Vd hV_Vd hHeld=> ?_
  have v_kt:=c_kt.1
  refine nef1 hV_Vd hA hF kt ?_;clear hA hF kt c_kt;intro z_Vd hA hF kt c_kt
  clear hV_Vd
  refine ta 0 hHeld ?_
  refine ta 1 hHeld ?_
  refine ta 2 hHeld ?_
  refine ta 3 hHeld ?_
  refine ta 4 hHeld ?_
  refine ta 5 hHeld ?_
  refine ta 6 hHeld ?_
  refine ta 7 hHeld ?_
  refine ta 8 hHeld ?_
  refine ta 10 hHeld ?_
  refine ta 11 hHeld ?_
  refine ta 12 hHeld ?_
  refine ta 13 hHeld ?_
  refine ta 14 hHeld ?_
  refine rd 9 rfl fun K hK=> ?_
  go_simp
  try simp only [IntWalk.i64_left]
  refine rC (lLen_calls _ _ hA) fun W1 hb_W1=> ?_
  refine bef1 hb_W1 hA hF kt ?_;clear hb_W1 hA hF kt c_kt;intro z_W1 hA hF kt c_kt
  refine ho hK ⟨vo c_kt v_kt 0,by omega,trivial⟩ fun hHeld=> ?_
  clear hK K
  refine rd 15 rfl fun K hK=> ?_
  go_simp
  try simp only [IntWalk.i64_left]
  refine rC (lLen_calls _ _ hA) fun W2 hb_W2=> ?_
  refine bef1 hb_W2 hA hF kt ?_;clear hb_W2 hA hF kt c_kt;intro z_W2 hA hF kt c_kt
  refine ho hK ⟨vo c_kt v_kt 0,by omega,trivial⟩ fun hHeld=> ?_
  clear hK K
  refine ta 16 hHeld ?_
  refine ta 17 hHeld ?_
  refine ta 18 hHeld ?_
  refine rd 19 rfl fun K hK=> ?_
  go_simp
  try simp only [IntWalk.i64_left]
  refine tC (lNode_calls ⟨5,x,y,0,0,u64 (wrap64 (lLen t.s x+lLen t.s y)),0⟩ hu _ ⟨hA,kt,o_kt⟩) fun W5 O2 hT hf=> ?_
  refine ti0 hT.hA hT.blk hT.no hf hF ?_;clear hA hF kt c_kt o_kt hT hf;intro z_W5 hA hF kt c_kt o_kt
  refine ho hK ⟨vo c_kt v_kt 0,by omega,trivial⟩ fun hHeld=> ?_
  clear hK K
  refine rd 20 rfl fun K hK=> ?_
  go_simp
  refine ho hK hHeld fun hHeld=> ?_
  clear hK K
  refine wd ?_
  go_wp2_with fail
  go_ret
  exact ⟨rfl,O2,⟨hA,kt,o_kt⟩,hF⟩
theorem lTold_calls (h : Int) (w : World) (hT : LB w tb ap t O) :
    Calls Tryz.prog 194 #[.pointer (some ⟨tb,0,none⟩), .int .i64 h] w fun e w'=>e= .returned (.tuple #[.int .i64 (Tb.told (h,t)).1, .int .i64 (Tb.told (h,t)).2.1])∧DidL tb ap t O w w':=by
  by_cases he:t.e=0
  · have d1:(t.e !=0)=false:=by simp [he]
    have e1:Hid (Tb.told (h,t)=(h,0,t.s)):=by show _=_;unfold Tb.told;rw [if_pos he]
    clear he
    go_enter Tryz.func194,Tryz.ntmps194
    have hA:=hT.hA
    have kt:=hT.blk
    have o_kt:=hT.no
    have c_kt:=f3 kt;have l_ktw:=lt_of kt
    go_wp2_with fail
    go_ret2
    rw [e1.out]
    exact ⟨rfl,O,hT,Fr.refl _ _ _⟩
  · have d1:(t.e !=0)=true:=by simp [he]
    have e1:Hid (Tb.told (h,t)=(0,t.e,t.s)):=by show _=_;unfold Tb.told;rw [if_neg he]
    clear he
    go_enter Tryz.func194,Tryz.ntmps194
    have hA:=hT.hA
    have kt:=hT.blk
    have o_kt:=hT.no
    have c_kt:=f3 kt;have l_ktw:=lt_of kt
    go_wp2_with fail
    refine wg fun V hV_V=> ?_
    have hF:=Fr.refl ((oneX tb)) O w
    refine nef1 hV_V hA hF kt ?_;clear hA hF kt c_kt;intro z_V hA hF kt c_kt
    clear hV_V
    refine dr (fun v=>Sm v V (tb)∧(V.heap.size≤v.heap.size)∧AP v ap t.s O) ⟨fun _=>rfl,Nat.le_refl _,hA.drew⟩ fun Vd hV_Vd hHeld=> ?_
    have v_kt:=c_kt.1
    refine nef1 hV_Vd hA hF kt ?_;clear hA hF kt c_kt;intro z_Vd hA hF kt c_kt
    clear hV_Vd
    refine ta 0 hHeld ?_
    refine ta 1 hHeld ?_
    refine ta 2 hHeld ?_
    refine ta 3 hHeld ?_
    refine rd 4 rfl fun K hK=> ?_
    go_simp
    refine ho hK hHeld fun hHeld=> ?_
    clear hK K
    refine rd 5 rfl fun K hK=> ?_
    go_simp
    refine ho hK hHeld fun hHeld=> ?_
    clear hK K
    refine wd ?_
    go_wp2_with fail
    go_ret2
    rw [e1.out]
    exact ⟨rfl,O,⟨hA,kt,o_kt⟩,hF⟩
theorem lHigh_calls : ∀ (k : Nat) (h r : Int) (w : World), lHigh k t.s h = some r → LB w tb ap t O →
    Calls Tryz.prog 266 #[.pointer (some ⟨tb,0,none⟩), .int .i64 h] w fun e w'=>e= .returned (.int .i64 r)∧Below w.heap.size w w'
  | 0,h,r,w,hr,hT=>by cases hr
  | k+1,h,r,w,hr,hT=>by
    have ih:=Lib.hid (lHigh_calls k)
    unfold lHigh at hr
    cases h1:lIs t.s h with
    | false=>
      rw [h1,if_neg (by decide)] at hr
      cases hr
      go_enter Tryz.func266,Tryz.ntmps266
      have hA:=hT.hA
      have kt:=hT.blk
      have o_kt:=hT.no
      have c_kt:=f3 kt;have l_ktw:=lt_of kt
      go_wp2_with fail
      refine cg fun V hV_V=> ?_
      have hB:=Below.refl w.heap.size w
      refine nea1 hV_V hA hB kt ?_;clear hA hB kt c_kt;intro z_V hA hB kt c_kt
      clear hV_V
      refine rC (lRow_calls _ _ hA) fun W1 hb_W1=> ?_
      refine bea1 hb_W1 hA hB kt ?_;clear hb_W1 hA hB kt c_kt;intro z_W1 hA hB kt c_kt
      unfold Nd.val
      go_wp2_with fail
      go_ret
      exact ⟨rfl,bel⟩
    | true=>
      rw [h1,if_pos rfl] at hr
      by_cases h2:(t.s.get h).tag=4
      · have d1:((t.s.get h).tag==4)=true:=by simpa using h2
        rw [if_pos h2] at hr
        cases hr
        clear h2
        go_enter Tryz.func266,Tryz.ntmps266
        have hA:=hT.hA
        have kt:=hT.blk
        have o_kt:=hT.no
        have c_kt:=f3 kt;have l_ktw:=lt_of kt
        go_wp2_with fail
        refine cg fun V hV_V=> ?_
        have hB:=Below.refl w.heap.size w
        refine nea1 hV_V hA hB kt ?_;clear hA hB kt c_kt;intro z_V hA hB kt c_kt
        clear hV_V
        refine rC (lRow_calls _ _ hA) fun W1 hb_W1=> ?_
        refine bea1 hb_W1 hA hB kt ?_;clear hb_W1 hA hB kt c_kt;intro z_W1 hA hB kt c_kt
        unfold Nd.val
        go_wp2_with fail
        go_ret
        exact ⟨rfl,bel⟩
      · have d1:((t.s.get h).tag==4)=false:=by simpa using h2
        rw [if_neg h2] at hr
        clear h2
        obtain ⟨p,hp,hr⟩:=Option.bind_eq_some_iff.1 hr
        obtain ⟨q,hq,hr⟩:=Option.bind_eq_some_iff.1 hr
        have hr:=Option.some.inj hr
        have Hp:=Lib.hid hp;have Hq:=Lib.hid hq;have Hr:=Lib.hid hr
        clear hp hq hr
        by_cases hpq:p<q
        all_goals
          go_enter Tryz.func266,Tryz.ntmps266
          have hA:=hT.hA
          have kt:=hT.blk
          have o_kt:=hT.no
          have c_kt:=f3 kt;have l_ktw:=lt_of kt
          go_wp2_with fail
          refine cg fun V hV_V=> ?_
          have hB:=Below.refl w.heap.size w
          refine nea1 hV_V hA hB kt ?_;clear hA hB kt c_kt;intro z_V hA hB kt c_kt
          clear hV_V
          refine rC (lRow_calls _ _ hA) fun W1 hb_W1=> ?_
          refine bea1 hb_W1 hA hB kt ?_;clear hb_W1 hA hB kt c_kt;intro z_W1 hA hB kt c_kt
          unfold Nd.val
          go_wp2_with fail
          refine wg fun V1 hV_V1=> ?_
          refine nna1 hV_V1 hA hB kt ?_;clear hA hB kt c_kt;intro hn_V1 z_V1 hA hB kt c_kt
          obtain ⟨kn,c_kn,o_kn,l_knV1⟩:=nN hn_V1 hV_V1 (W1.heap.size)
          clear hV_V1 hn_V1
          refine dr (fun v=>Sm v V1 (tb)∧Sm v V1 (W1.heap.size)∧(V1.heap.size≤v.heap.size)∧AP v ap t.s O) ⟨fun _=>rfl,fun _=>rfl,Nat.le_refl _,hA.drew⟩ fun V1d hV_V1d hHeld=> ?_
          have v_kt:=c_kt.1;have v_kn:=c_kn.1
          refine nea2 hV_V1d hA hB kt kn ?_;clear hA hB kt kn c_kt c_kn;intro z_V1d hA hB kt c_kt kn c_kn
          clear hV_V1d
          refine ta 0 hHeld ?_
          refine ta 1 hHeld ?_
          refine ta 2 hHeld ?_
          refine ta 3 hHeld ?_
          refine ta 5 hHeld ?_
          refine ta 6 hHeld ?_
          refine ta 7 hHeld ?_
          refine ta 8 hHeld ?_
          refine rd 4 rfl fun K hK=> ?_
          go_simp
          try simp only [IntWalk.i64_left]
          refine rC (ih.out _ _ _ Hp.out ⟨hA,kt,o_kt⟩) fun W2 hb_W2=> ?_
          refine bea2 hb_W2 hA hB kt kn ?_;clear hb_W2 hA hB kt kn c_kt c_kn;intro z_W2 hA hB kt c_kt kn c_kn
          refine ho hK ⟨vv c_kt v_kt,vv c_kn v_kn,by omega,hA⟩ fun hHeld=> ?_
          clear hK K
          refine rd 9 rfl fun K hK=> ?_
          go_simp
          try simp only [IntWalk.i64_left]
          refine rC (ih.out _ _ _ Hq.out ⟨hA,kt,o_kt⟩) fun W3 hb_W3=> ?_
          refine bea2 hb_W3 hA hB kt kn ?_;clear hb_W3 hA hB kt kn c_kt c_kn;intro z_W3 hA hB kt c_kt kn c_kn
          refine ho hK ⟨vv c_kt v_kt,vv c_kn v_kn,by omega,hA⟩ fun hHeld=> ?_
          clear hK K
          refine ta 10 hHeld ?_
          refine ta 11 hHeld ?_
          refine rd 12 rfl fun K hK=> ?_
          go_simp
          refine ho hK hHeld fun hHeld=> ?_
          clear hK K
          refine wd ?_
          go_wp2_with fail
          go_ret
          refine ⟨?_,bel⟩
          rw [←Hr.out]
          unfold imax
          first|rw [if_pos hpq]|rw [if_neg (Int.not_lt.2 hpq)]
          simp only [IntWalk.i64_left]
          rfl
theorem lOpen_calls (h : Int) (w : World) (hT : LB w tb ap t O) :
    Calls Tryz.prog 267 #[.pointer (some ⟨tb,0,none⟩), .int .i64 h] w fun e w'=>e= .returned (.tuple #[.int .i64 (t.s.get h).k0, .int .i64 (t.s.get h).k1])∧DidL tb ap (t.opened h) O w w':=by
  go_enter Tryz.func267,Tryz.ntmps267
  have hA:=hT.hA
  have kt:=hT.blk
  have o_kt:=hT.no
  have c_kt:=f3 kt;have l_ktw:=lt_of kt
  go_wp2_with fail
  refine cg fun V hV_V=> ?_
  have hF:=Fr.refl ((oneX tb)) O w
  refine nef1 hV_V hA hF kt ?_;clear hA hF kt c_kt;intro z_V hA hF kt c_kt
  clear hV_V
  refine rC (lRow_calls _ _ hA) fun W1 hb_W1=> ?_
  refine bef1 hb_W1 hA hF kt ?_;clear hb_W1 hA hF kt c_kt;intro z_W1 hA hF kt c_kt
  unfold Nd.val
  go_wp2_with fail
  refine wg fun V1 hV_V1=> ?_
  refine nnf1 hV_V1 hA hF kt ?_;clear hA hF kt c_kt;intro hn_V1 z_V1 hA hF kt c_kt
  obtain ⟨kn,c_kn,o_kn,l_knV1⟩:=nN hn_V1 hV_V1 (W1.heap.size)
  clear hV_V1 hn_V1
  refine dr (fun v=>Sm v V1 (tb)∧Sm v V1 (W1.heap.size)∧(V1.heap.size≤v.heap.size)∧True) ⟨fun _=>rfl,fun _=>rfl,Nat.le_refl _,trivial⟩ fun V1d hV_V1d hHeld=> ?_
  have v_kt:=c_kt.1;have v_kn:=c_kn.1
  refine nef2 hV_V1d hA hF kt kn ?_;clear hA hF kt kn c_kt c_kn;intro z_V1d hA hF kt c_kt kn c_kn
  clear hV_V1d
  refine ta 0 hHeld ?_
  refine ta 1 hHeld ?_
  refine ta 2 hHeld ?_
  refine ta 3 hHeld ?_
  refine ta 5 hHeld ?_
  refine ta 6 hHeld ?_
  refine ta 7 hHeld ?_
  refine ta 8 hHeld ?_
  refine rd 4 rfl fun K hK=> ?_
  go_simp
  try simp only [IntWalk.i64_left]
  refine tC (lKeep_calls (t:=t) (t.s.get h).k0 _ ⟨hA,kt,o_kt⟩) fun W2 O1 hT hf=> ?_
  refine ti1 hT.hA hT.blk hT.no hf hF kn o_kn ?_;clear hA hF kt c_kt o_kt kn o_kn c_kn hT hf;intro z_W2 hA hF kt c_kt o_kt kn c_kn o_kn
  refine ho hK ⟨vv c_kt v_kt,vv c_kn v_kn,by omega,trivial⟩ fun hHeld=> ?_
  clear hK K
  refine rd 9 rfl fun K hK=> ?_
  go_simp
  try simp only [IntWalk.i64_left]
  refine tC (lKeep_calls (t:=t.keep (t.s.get h).k0) (t.s.get h).k1 _ ⟨hA,kt,o_kt⟩) fun W3 O2 hT hf=> ?_
  refine ti1 hT.hA hT.blk hT.no hf hF kn o_kn ?_;clear hA hF kt c_kt o_kt kn o_kn c_kn hT hf;intro z_W3 hA hF kt c_kt o_kt kn c_kn o_kn
  refine ho hK ⟨vv c_kt v_kt,vv c_kn v_kn,by omega,trivial⟩ fun hHeld=> ?_
  clear hK K
  refine rd 10 rfl fun K hK=> ?_
  go_simp
  refine ho hK hHeld fun hHeld=> ?_
  clear hK K
  refine rd 11 rfl fun K hK=> ?_
  go_simp
  refine ho hK hHeld fun hHeld=> ?_
  clear hK K
  refine wd ?_
  go_wp2_with fail
  refine cg fun V4 hV_V4=> ?_
  refine nef2 hV_V4 hA hF kt kn ?_;clear hA hF kt kn c_kt c_kn;intro z_V4 hA hF kt c_kt kn c_kn
  clear hV_V4
  refine wC (drop_calls _ _ hA) fun W5 O3 hA_W5 hf_W5=> ?_
  refine wif2 hf_W5 hF kt o_kt kn o_kn ?_;clear hA hF kt o_kt kn o_kn c_kt c_kn hf_W5;intro z_W5 hF kt c_kt o_kt kn c_kn o_kn;have hA:=hA_W5;clear hA_W5
  go_wp2_with fail
  go_ret2
  exact ⟨rfl,O3,⟨hA,kt,o_kt⟩,hF⟩
end
section
open Go.RowKit
attribute [local go_sem ↓] Go.wp_at_zero Go.wp_at_succ
attribute [local go_sem] lt_s2 lt_s3 lt_s4
variable {ap : Value} {O : Nat → Prop} {tb : Nat} {t : Tb}
theorem lJoin_calls (x y : Int) (r : Int × Tb) (hr : t.join x y = some r) (w : World) (hT : LB w tb ap t O) :
    Calls Tryz.prog 198 #[.pointer (some ⟨tb,0,none⟩), .int .i64 x, .int .i64 y] w fun e w'=>e= .returned (.int .i64 r.1)∧DidL tb ap r.2 O w w':=by
  unfold Tb.join at hr
  obtain ⟨p,h_b,h_r⟩:=Option.bind_eq_some_iff.1 hr
  have Hp:=Lib.hid h_b;clear h_b hr;have hr:=h_r;clear h_r
  obtain ⟨q,h_b,h_r⟩:=Option.bind_eq_some_iff.1 hr
  have Hq:=Lib.hid h_b;clear h_b hr;have hr:=h_r;clear h_r
  by_cases he:t.e=0
  · have d1:(t.e !=0)=false:=by simp [he]
    rw [if_pos he] at hr
    clear he
    by_cases hx:x=0
    · have x1:(x==0)=true:=by simpa using hx
      rw [if_pos (.inl hx)] at hr
      obtain rfl:=Option.some.inj hr
      clear hr hx
      go_enter Tryz.func198,Tryz.ntmps198
      have hA:=hT.hA
      have kt:=hT.blk
      have o_kt:=hT.no
      have c_kt:=f3 kt;have l_ktw:=lt_of kt
      go_wp2_with fail
      refine cg fun VW1 hV_VW1=> ?_
      have hF:=Fr.refl ((oneX tb)) O w
      refine nef1 hV_VW1 hA hF kt ?_;clear hA hF kt c_kt;intro z_VW1 hA hF kt c_kt
      clear hV_VW1
      refine rC (lHigh_calls (t:=t) _ _ _ _ Hp.out ⟨hA,kt,o_kt⟩) fun W1 hb_W1=> ?_
      refine bef1 hb_W1 hA hF kt ?_;clear hb_W1 hA hF kt c_kt;intro z_W1 hA hF kt c_kt
      go_wp2_with fail
      refine cg fun VW2 hV_VW2=> ?_
      refine nef1 hV_VW2 hA hF kt ?_;clear hA hF kt c_kt;intro z_VW2 hA hF kt c_kt
      clear hV_VW2
      refine rC (lHigh_calls (t:=t) _ _ _ _ Hq.out ⟨hA,kt,o_kt⟩) fun W2 hb_W2=> ?_
      refine bef1 hb_W2 hA hF kt ?_;clear hb_W2 hA hF kt c_kt;intro z_W2 hA hF kt c_kt
      go_wp2_with fail
      go_ret
      exact ⟨rfl,O,⟨hA,kt,o_kt⟩,hF⟩
    have x1:(x==0)=false:=by simpa using hx
    by_cases hy:y=0
    · have y1:(y==0)=true:=by simpa using hy
      rw [if_pos (.inr hy)] at hr
      obtain rfl:=Option.some.inj hr
      clear hr hx hy
      go_enter Tryz.func198,Tryz.ntmps198
      have hA:=hT.hA
      have kt:=hT.blk
      have o_kt:=hT.no
      have c_kt:=f3 kt;have l_ktw:=lt_of kt
      go_wp2_with fail
      refine cg fun VW1 hV_VW1=> ?_
      have hF:=Fr.refl ((oneX tb)) O w
      refine nef1 hV_VW1 hA hF kt ?_;clear hA hF kt c_kt;intro z_VW1 hA hF kt c_kt
      clear hV_VW1
      refine rC (lHigh_calls (t:=t) _ _ _ _ Hp.out ⟨hA,kt,o_kt⟩) fun W1 hb_W1=> ?_
      refine bef1 hb_W1 hA hF kt ?_;clear hb_W1 hA hF kt c_kt;intro z_W1 hA hF kt c_kt
      go_wp2_with fail
      refine cg fun VW2 hV_VW2=> ?_
      refine nef1 hV_VW2 hA hF kt ?_;clear hA hF kt c_kt;intro z_VW2 hA hF kt c_kt
      clear hV_VW2
      refine rC (lHigh_calls (t:=t) _ _ _ _ Hq.out ⟨hA,kt,o_kt⟩) fun W2 hb_W2=> ?_
      refine bef1 hb_W2 hA hF kt ?_;clear hb_W2 hA hF kt c_kt;intro z_W2 hA hF kt c_kt
      go_wp2_with fail
      go_ret
      exact ⟨rfl,O,⟨hA,kt,o_kt⟩,hF⟩
    have y1:(y==0)=false:=by simpa using hy
    rw [if_neg (by intro h;rcases h with h|h;exact hx h;exact hy h)] at hr
    clear hx hy
    by_cases c1:wrap64 (q+1)<p
    · have d2:decide (wrap64 (q+1)<p)=true:=by simpa using c1
      rw [if_pos c1] at hr
      clear c1
      dsimp only at hr
      obtain ⟨a,h_b,h_r⟩:=Option.bind_eq_some_iff.1 hr
      have Ha:=Lib.hid h_b;clear h_b hr;have hr:=h_r;clear h_r
      obtain ⟨b,h_b,h_r⟩:=Option.bind_eq_some_iff.1 hr
      have Hb:=Lib.hid h_b;clear h_b hr;have hr:=h_r;clear h_r
      by_cases c2:b≤a
      · have d3:decide (b≤a)=true:=by simpa using c2
        rw [if_pos c2] at hr
        clear c2
        obtain rfl:=Option.some.inj hr
        clear hr
        go_enter Tryz.func198,Tryz.ntmps198
        have hA:=hT.hA
        have kt:=hT.blk
        have o_kt:=hT.no
        have c_kt:=f3 kt;have l_ktw:=lt_of kt
        go_wp2_with fail
        refine cg fun VW1 hV_VW1=> ?_
        have hF:=Fr.refl ((oneX tb)) O w
        refine nef1 hV_VW1 hA hF kt ?_;clear hA hF kt c_kt;intro z_VW1 hA hF kt c_kt
        clear hV_VW1
        refine rC (lHigh_calls (t:=t) _ _ _ _ Hp.out ⟨hA,kt,o_kt⟩) fun W1 hb_W1=> ?_
        refine bef1 hb_W1 hA hF kt ?_;clear hb_W1 hA hF kt c_kt;intro z_W1 hA hF kt c_kt
        go_wp2_with fail
        refine cg fun VW2 hV_VW2=> ?_
        refine nef1 hV_VW2 hA hF kt ?_;clear hA hF kt c_kt;intro z_VW2 hA hF kt c_kt
        clear hV_VW2
        refine rC (lHigh_calls (t:=t) _ _ _ _ Hq.out ⟨hA,kt,o_kt⟩) fun W2 hb_W2=> ?_
        refine bef1 hb_W2 hA hF kt ?_;clear hb_W2 hA hF kt c_kt;intro z_W2 hA hF kt c_kt
        go_wp2_with fail
        refine cg fun VW3 hV_VW3=> ?_
        refine nef1 hV_VW3 hA hF kt ?_;clear hA hF kt c_kt;intro z_VW3 hA hF kt c_kt
        clear hV_VW3
        refine tC (lOpen_calls (t:=t) x _ ⟨hA,kt,o_kt⟩) fun W3 O1 hT hf=> ?_
        refine ti0 hT.hA hT.blk hT.no hf hF ?_;clear hA hF kt c_kt o_kt hT hf;intro z_W3 hA hF kt c_kt o_kt
        go_wp2_with fail
        refine cg fun VW4 hV_VW4=> ?_
        refine nef1 hV_VW4 hA hF kt ?_;clear hA hF kt c_kt;intro z_VW4 hA hF kt c_kt
        clear hV_VW4
        refine rC (lHigh_calls (t:=t.opened x) _ _ _ _ Ha.out ⟨hA,kt,o_kt⟩) fun W4 hb_W4=> ?_
        refine bef1 hb_W4 hA hF kt ?_;clear hb_W4 hA hF kt c_kt;intro z_W4 hA hF kt c_kt
        go_wp2_with fail
        refine cg fun VW5 hV_VW5=> ?_
        refine nef1 hV_VW5 hA hF kt ?_;clear hA hF kt c_kt;intro z_VW5 hA hF kt c_kt
        clear hV_VW5
        refine rC (lHigh_calls (t:=t.opened x) _ _ _ _ Hb.out ⟨hA,kt,o_kt⟩) fun W5 hb_W5=> ?_
        refine bef1 hb_W5 hA hF kt ?_;clear hb_W5 hA hF kt c_kt;intro z_W5 hA hF kt c_kt
        go_wp2_with fail
        refine cg fun VW6 hV_VW6=> ?_
        refine nef1 hV_VW6 hA hF kt ?_;clear hA hF kt c_kt;intro z_VW6 hA hF kt c_kt
        clear hV_VW6
        refine tC (lPair_calls (t:=t.opened x) _ _ _ ⟨hA,kt,o_kt⟩) fun W6 O2 hT hf=> ?_
        refine ti0 hT.hA hT.blk hT.no hf hF ?_;clear hA hF kt c_kt o_kt hT hf;intro z_W6 hA hF kt c_kt o_kt
        go_wp2_with fail
        refine cg fun VW7 hV_VW7=> ?_
        refine nef1 hV_VW7 hA hF kt ?_;clear hA hF kt c_kt;intro z_VW7 hA hF kt c_kt
        clear hV_VW7
        refine tC (lPair_calls (t:=((t.opened x).lpair (t.s.get x).k1 y).2) _ _ _ ⟨hA,kt,o_kt⟩) fun W7 O3 hT hf=> ?_
        refine ti0 hT.hA hT.blk hT.no hf hF ?_;clear hA hF kt c_kt o_kt hT hf;intro z_W7 hA hF kt c_kt o_kt
        go_wp2_with fail
        go_ret
        exact ⟨rfl,O3,⟨hA,kt,o_kt⟩,hF⟩
      · have d3:decide (b≤a)=false:=by simpa using c2
        rw [if_neg c2] at hr
        clear c2
        obtain rfl:=Option.some.inj hr
        clear hr
        go_enter Tryz.func198,Tryz.ntmps198
        have hA:=hT.hA
        have kt:=hT.blk
        have o_kt:=hT.no
        have c_kt:=f3 kt;have l_ktw:=lt_of kt
        go_wp2_with fail
        refine cg fun VW1 hV_VW1=> ?_
        have hF:=Fr.refl ((oneX tb)) O w
        refine nef1 hV_VW1 hA hF kt ?_;clear hA hF kt c_kt;intro z_VW1 hA hF kt c_kt
        clear hV_VW1
        refine rC (lHigh_calls (t:=t) _ _ _ _ Hp.out ⟨hA,kt,o_kt⟩) fun W1 hb_W1=> ?_
        refine bef1 hb_W1 hA hF kt ?_;clear hb_W1 hA hF kt c_kt;intro z_W1 hA hF kt c_kt
        go_wp2_with fail
        refine cg fun VW2 hV_VW2=> ?_
        refine nef1 hV_VW2 hA hF kt ?_;clear hA hF kt c_kt;intro z_VW2 hA hF kt c_kt
        clear hV_VW2
        refine rC (lHigh_calls (t:=t) _ _ _ _ Hq.out ⟨hA,kt,o_kt⟩) fun W2 hb_W2=> ?_
        refine bef1 hb_W2 hA hF kt ?_;clear hb_W2 hA hF kt c_kt;intro z_W2 hA hF kt c_kt
        go_wp2_with fail
        refine cg fun VW3 hV_VW3=> ?_
        refine nef1 hV_VW3 hA hF kt ?_;clear hA hF kt c_kt;intro z_VW3 hA hF kt c_kt
        clear hV_VW3
        refine tC (lOpen_calls (t:=t) x _ ⟨hA,kt,o_kt⟩) fun W3 O1 hT hf=> ?_
        refine ti0 hT.hA hT.blk hT.no hf hF ?_;clear hA hF kt c_kt o_kt hT hf;intro z_W3 hA hF kt c_kt o_kt
        go_wp2_with fail
        refine cg fun VW4 hV_VW4=> ?_
        refine nef1 hV_VW4 hA hF kt ?_;clear hA hF kt c_kt;intro z_VW4 hA hF kt c_kt
        clear hV_VW4
        refine rC (lHigh_calls (t:=t.opened x) _ _ _ _ Ha.out ⟨hA,kt,o_kt⟩) fun W4 hb_W4=> ?_
        refine bef1 hb_W4 hA hF kt ?_;clear hb_W4 hA hF kt c_kt;intro z_W4 hA hF kt c_kt
        go_wp2_with fail
        refine cg fun VW5 hV_VW5=> ?_
        refine nef1 hV_VW5 hA hF kt ?_;clear hA hF kt c_kt;intro z_VW5 hA hF kt c_kt
        clear hV_VW5
        refine rC (lHigh_calls (t:=t.opened x) _ _ _ _ Hb.out ⟨hA,kt,o_kt⟩) fun W5 hb_W5=> ?_
        refine bef1 hb_W5 hA hF kt ?_;clear hb_W5 hA hF kt c_kt;intro z_W5 hA hF kt c_kt
        go_wp2_with fail
        refine cg fun VW6 hV_VW6=> ?_
        refine nef1 hV_VW6 hA hF kt ?_;clear hA hF kt c_kt;intro z_VW6 hA hF kt c_kt
        clear hV_VW6
        refine tC (lOpen_calls (t:=t.opened x) (t.s.get x).k1 _ ⟨hA,kt,o_kt⟩) fun W6 O2 hT hf=> ?_
        refine ti0 hT.hA hT.blk hT.no hf hF ?_;clear hA hF kt c_kt o_kt hT hf;intro z_W6 hA hF kt c_kt o_kt
        go_wp2_with fail
        refine cg fun VW7 hV_VW7=> ?_
        refine nef1 hV_VW7 hA hF kt ?_;clear hA hF kt c_kt;intro z_VW7 hA hF kt c_kt
        clear hV_VW7
        refine tC (lPair_calls (t:=(t.opened x).opened (t.s.get x).k1) _ _ _ ⟨hA,kt,o_kt⟩) fun W7 O3 hT hf=> ?_
        refine ti0 hT.hA hT.blk hT.no hf hF ?_;clear hA hF kt c_kt o_kt hT hf;intro z_W7 hA hF kt c_kt o_kt
        go_wp2_with fail
        refine cg fun VW8 hV_VW8=> ?_
        refine nef1 hV_VW8 hA hF kt ?_;clear hA hF kt c_kt;intro z_VW8 hA hF kt c_kt
        clear hV_VW8
        refine tC (lPair_calls (t:=(((t.opened x).opened (t.s.get x).k1).lpair (t.s.get x).k0 ((t.opened x).s.get (t.s.get x).k1).k0).2) _ _ _ ⟨hA,kt,o_kt⟩) fun W8 O4 hT hf=> ?_
        refine ti0 hT.hA hT.blk hT.no hf hF ?_;clear hA hF kt c_kt o_kt hT hf;intro z_W8 hA hF kt c_kt o_kt
        go_wp2_with fail
        refine cg fun VW9 hV_VW9=> ?_
        refine nef1 hV_VW9 hA hF kt ?_;clear hA hF kt c_kt;intro z_VW9 hA hF kt c_kt
        clear hV_VW9
        refine tC (lPair_calls (t:=((((t.opened x).opened (t.s.get x).k1).lpair (t.s.get x).k0 ((t.opened x).s.get (t.s.get x).k1).k0).2.lpair ((t.opened x).s.get (t.s.get x).k1).k1 y).2) _ _ _ ⟨hA,kt,o_kt⟩) fun W9 O5 hT hf=> ?_
        refine ti0 hT.hA hT.blk hT.no hf hF ?_;clear hA hF kt c_kt o_kt hT hf;intro z_W9 hA hF kt c_kt o_kt
        go_wp2_with fail
        go_ret
        exact ⟨rfl,O5,⟨hA,kt,o_kt⟩,hF⟩
    · have d2:decide (wrap64 (q+1)<p)=false:=by simpa using c1
      rw [if_neg c1] at hr
      clear c1
      by_cases c3:wrap64 (p+1)<q
      · have d4:decide (wrap64 (p+1)<q)=true:=by simpa using c3
        rw [if_pos c3] at hr
        clear c3
        dsimp only at hr
        obtain ⟨a,h_b,h_r⟩:=Option.bind_eq_some_iff.1 hr
        have Ha:=Lib.hid h_b;clear h_b hr;have hr:=h_r;clear h_r
        obtain ⟨b,h_b,h_r⟩:=Option.bind_eq_some_iff.1 hr
        have Hb:=Lib.hid h_b;clear h_b hr;have hr:=h_r;clear h_r
        by_cases c2:b≤a
        · have d3:decide (b≤a)=true:=by simpa using c2
          rw [if_pos c2] at hr
          clear c2
          obtain rfl:=Option.some.inj hr
          clear hr
          go_enter Tryz.func198,Tryz.ntmps198
          have hA:=hT.hA
          have kt:=hT.blk
          have o_kt:=hT.no
          have c_kt:=f3 kt;have l_ktw:=lt_of kt
          go_wp2_with fail
          refine cg fun VW1 hV_VW1=> ?_
          have hF:=Fr.refl ((oneX tb)) O w
          refine nef1 hV_VW1 hA hF kt ?_;clear hA hF kt c_kt;intro z_VW1 hA hF kt c_kt
          clear hV_VW1
          refine rC (lHigh_calls (t:=t) _ _ _ _ Hp.out ⟨hA,kt,o_kt⟩) fun W1 hb_W1=> ?_
          refine bef1 hb_W1 hA hF kt ?_;clear hb_W1 hA hF kt c_kt;intro z_W1 hA hF kt c_kt
          go_wp2_with fail
          refine cg fun VW2 hV_VW2=> ?_
          refine nef1 hV_VW2 hA hF kt ?_;clear hA hF kt c_kt;intro z_VW2 hA hF kt c_kt
          clear hV_VW2
          refine rC (lHigh_calls (t:=t) _ _ _ _ Hq.out ⟨hA,kt,o_kt⟩) fun W2 hb_W2=> ?_
          refine bef1 hb_W2 hA hF kt ?_;clear hb_W2 hA hF kt c_kt;intro z_W2 hA hF kt c_kt
          go_wp2_with fail
          refine cg fun VW3 hV_VW3=> ?_
          refine nef1 hV_VW3 hA hF kt ?_;clear hA hF kt c_kt;intro z_VW3 hA hF kt c_kt
          clear hV_VW3
          refine tC (lOpen_calls (t:=t) y _ ⟨hA,kt,o_kt⟩) fun W3 O1 hT hf=> ?_
          refine ti0 hT.hA hT.blk hT.no hf hF ?_;clear hA hF kt c_kt o_kt hT hf;intro z_W3 hA hF kt c_kt o_kt
          go_wp2_with fail
          refine cg fun VW4 hV_VW4=> ?_
          refine nef1 hV_VW4 hA hF kt ?_;clear hA hF kt c_kt;intro z_VW4 hA hF kt c_kt
          clear hV_VW4
          refine rC (lHigh_calls (t:=t.opened y) _ _ _ _ Ha.out ⟨hA,kt,o_kt⟩) fun W4 hb_W4=> ?_
          refine bef1 hb_W4 hA hF kt ?_;clear hb_W4 hA hF kt c_kt;intro z_W4 hA hF kt c_kt
          go_wp2_with fail
          refine cg fun VW5 hV_VW5=> ?_
          refine nef1 hV_VW5 hA hF kt ?_;clear hA hF kt c_kt;intro z_VW5 hA hF kt c_kt
          clear hV_VW5
          refine rC (lHigh_calls (t:=t.opened y) _ _ _ _ Hb.out ⟨hA,kt,o_kt⟩) fun W5 hb_W5=> ?_
          refine bef1 hb_W5 hA hF kt ?_;clear hb_W5 hA hF kt c_kt;intro z_W5 hA hF kt c_kt
          go_wp2_with fail
          refine cg fun VW6 hV_VW6=> ?_
          refine nef1 hV_VW6 hA hF kt ?_;clear hA hF kt c_kt;intro z_VW6 hA hF kt c_kt
          clear hV_VW6
          refine tC (lPair_calls (t:=t.opened y) _ _ _ ⟨hA,kt,o_kt⟩) fun W6 O2 hT hf=> ?_
          refine ti0 hT.hA hT.blk hT.no hf hF ?_;clear hA hF kt c_kt o_kt hT hf;intro z_W6 hA hF kt c_kt o_kt
          go_wp2_with fail
          refine cg fun VW7 hV_VW7=> ?_
          refine nef1 hV_VW7 hA hF kt ?_;clear hA hF kt c_kt;intro z_VW7 hA hF kt c_kt
          clear hV_VW7
          refine tC (lPair_calls (t:=((t.opened y).lpair x (t.s.get y).k0).2) _ _ _ ⟨hA,kt,o_kt⟩) fun W7 O3 hT hf=> ?_
          refine ti0 hT.hA hT.blk hT.no hf hF ?_;clear hA hF kt c_kt o_kt hT hf;intro z_W7 hA hF kt c_kt o_kt
          go_wp2_with fail
          go_ret
          exact ⟨rfl,O3,⟨hA,kt,o_kt⟩,hF⟩
        · have d3:decide (b≤a)=false:=by simpa using c2
          rw [if_neg c2] at hr
          clear c2
          obtain rfl:=Option.some.inj hr
          clear hr
          go_enter Tryz.func198,Tryz.ntmps198
          have hA:=hT.hA
          have kt:=hT.blk
          have o_kt:=hT.no
          have c_kt:=f3 kt;have l_ktw:=lt_of kt
          go_wp2_with fail
          refine cg fun VW1 hV_VW1=> ?_
          have hF:=Fr.refl ((oneX tb)) O w
          refine nef1 hV_VW1 hA hF kt ?_;clear hA hF kt c_kt;intro z_VW1 hA hF kt c_kt
          clear hV_VW1
          refine rC (lHigh_calls (t:=t) _ _ _ _ Hp.out ⟨hA,kt,o_kt⟩) fun W1 hb_W1=> ?_
          refine bef1 hb_W1 hA hF kt ?_;clear hb_W1 hA hF kt c_kt;intro z_W1 hA hF kt c_kt
          go_wp2_with fail
          refine cg fun VW2 hV_VW2=> ?_
          refine nef1 hV_VW2 hA hF kt ?_;clear hA hF kt c_kt;intro z_VW2 hA hF kt c_kt
          clear hV_VW2
          refine rC (lHigh_calls (t:=t) _ _ _ _ Hq.out ⟨hA,kt,o_kt⟩) fun W2 hb_W2=> ?_
          refine bef1 hb_W2 hA hF kt ?_;clear hb_W2 hA hF kt c_kt;intro z_W2 hA hF kt c_kt
          go_wp2_with fail
          refine cg fun VW3 hV_VW3=> ?_
          refine nef1 hV_VW3 hA hF kt ?_;clear hA hF kt c_kt;intro z_VW3 hA hF kt c_kt
          clear hV_VW3
          refine tC (lOpen_calls (t:=t) y _ ⟨hA,kt,o_kt⟩) fun W3 O1 hT hf=> ?_
          refine ti0 hT.hA hT.blk hT.no hf hF ?_;clear hA hF kt c_kt o_kt hT hf;intro z_W3 hA hF kt c_kt o_kt
          go_wp2_with fail
          refine cg fun VW4 hV_VW4=> ?_
          refine nef1 hV_VW4 hA hF kt ?_;clear hA hF kt c_kt;intro z_VW4 hA hF kt c_kt
          clear hV_VW4
          refine rC (lHigh_calls (t:=t.opened y) _ _ _ _ Ha.out ⟨hA,kt,o_kt⟩) fun W4 hb_W4=> ?_
          refine bef1 hb_W4 hA hF kt ?_;clear hb_W4 hA hF kt c_kt;intro z_W4 hA hF kt c_kt
          go_wp2_with fail
          refine cg fun VW5 hV_VW5=> ?_
          refine nef1 hV_VW5 hA hF kt ?_;clear hA hF kt c_kt;intro z_VW5 hA hF kt c_kt
          clear hV_VW5
          refine rC (lHigh_calls (t:=t.opened y) _ _ _ _ Hb.out ⟨hA,kt,o_kt⟩) fun W5 hb_W5=> ?_
          refine bef1 hb_W5 hA hF kt ?_;clear hb_W5 hA hF kt c_kt;intro z_W5 hA hF kt c_kt
          go_wp2_with fail
          refine cg fun VW6 hV_VW6=> ?_
          refine nef1 hV_VW6 hA hF kt ?_;clear hA hF kt c_kt;intro z_VW6 hA hF kt c_kt
          clear hV_VW6
          refine tC (lOpen_calls (t:=t.opened y) (t.s.get y).k0 _ ⟨hA,kt,o_kt⟩) fun W6 O2 hT hf=> ?_
          refine ti0 hT.hA hT.blk hT.no hf hF ?_;clear hA hF kt c_kt o_kt hT hf;intro z_W6 hA hF kt c_kt o_kt
          go_wp2_with fail
          refine cg fun VW7 hV_VW7=> ?_
          refine nef1 hV_VW7 hA hF kt ?_;clear hA hF kt c_kt;intro z_VW7 hA hF kt c_kt
          clear hV_VW7
          refine tC (lPair_calls (t:=(t.opened y).opened (t.s.get y).k0) _ _ _ ⟨hA,kt,o_kt⟩) fun W7 O3 hT hf=> ?_
          refine ti0 hT.hA hT.blk hT.no hf hF ?_;clear hA hF kt c_kt o_kt hT hf;intro z_W7 hA hF kt c_kt o_kt
          go_wp2_with fail
          refine cg fun VW8 hV_VW8=> ?_
          refine nef1 hV_VW8 hA hF kt ?_;clear hA hF kt c_kt;intro z_VW8 hA hF kt c_kt
          clear hV_VW8
          refine tC (lPair_calls (t:=(((t.opened y).opened (t.s.get y).k0).lpair x ((t.opened y).s.get (t.s.get y).k0).k0).2) _ _ _ ⟨hA,kt,o_kt⟩) fun W8 O4 hT hf=> ?_
          refine ti0 hT.hA hT.blk hT.no hf hF ?_;clear hA hF kt c_kt o_kt hT hf;intro z_W8 hA hF kt c_kt o_kt
          go_wp2_with fail
          refine cg fun VW9 hV_VW9=> ?_
          refine nef1 hV_VW9 hA hF kt ?_;clear hA hF kt c_kt;intro z_VW9 hA hF kt c_kt
          clear hV_VW9
          refine tC (lPair_calls (t:=((((t.opened y).opened (t.s.get y).k0).lpair x ((t.opened y).s.get (t.s.get y).k0).k0).2.lpair ((t.opened y).s.get (t.s.get y).k0).k1 (t.s.get y).k1).2) _ _ _ ⟨hA,kt,o_kt⟩) fun W9 O5 hT hf=> ?_
          refine ti0 hT.hA hT.blk hT.no hf hF ?_;clear hA hF kt c_kt o_kt hT hf;intro z_W9 hA hF kt c_kt o_kt
          go_wp2_with fail
          go_ret
          exact ⟨rfl,O5,⟨hA,kt,o_kt⟩,hF⟩
      · have d4:decide (wrap64 (p+1)<q)=false:=by simpa using c3
        rw [if_neg c3] at hr
        clear c3
        obtain rfl:=Option.some.inj hr
        clear hr
        go_enter Tryz.func198,Tryz.ntmps198
        have hA:=hT.hA
        have kt:=hT.blk
        have o_kt:=hT.no
        have c_kt:=f3 kt;have l_ktw:=lt_of kt
        go_wp2_with fail
        refine cg fun VW1 hV_VW1=> ?_
        have hF:=Fr.refl ((oneX tb)) O w
        refine nef1 hV_VW1 hA hF kt ?_;clear hA hF kt c_kt;intro z_VW1 hA hF kt c_kt
        clear hV_VW1
        refine rC (lHigh_calls (t:=t) _ _ _ _ Hp.out ⟨hA,kt,o_kt⟩) fun W1 hb_W1=> ?_
        refine bef1 hb_W1 hA hF kt ?_;clear hb_W1 hA hF kt c_kt;intro z_W1 hA hF kt c_kt
        go_wp2_with fail
        refine cg fun VW2 hV_VW2=> ?_
        refine nef1 hV_VW2 hA hF kt ?_;clear hA hF kt c_kt;intro z_VW2 hA hF kt c_kt
        clear hV_VW2
        refine rC (lHigh_calls (t:=t) _ _ _ _ Hq.out ⟨hA,kt,o_kt⟩) fun W2 hb_W2=> ?_
        refine bef1 hb_W2 hA hF kt ?_;clear hb_W2 hA hF kt c_kt;intro z_W2 hA hF kt c_kt
        go_wp2_with fail
        refine cg fun VW3 hV_VW3=> ?_
        refine nef1 hV_VW3 hA hF kt ?_;clear hA hF kt c_kt;intro z_VW3 hA hF kt c_kt
        clear hV_VW3
        refine tC (lPair_calls (t:=t) _ _ _ ⟨hA,kt,o_kt⟩) fun W3 O1 hT hf=> ?_
        refine ti0 hT.hA hT.blk hT.no hf hF ?_;clear hA hF kt c_kt o_kt hT hf;intro z_W3 hA hF kt c_kt o_kt
        go_wp2_with fail
        go_ret
        exact ⟨rfl,O1,⟨hA,kt,o_kt⟩,hF⟩
  · have d1:(t.e !=0)=true:=by simp [he]
    rw [if_neg he] at hr
    clear he
    obtain rfl:=Option.some.inj hr
    clear hr
    go_enter Tryz.func198,Tryz.ntmps198
    have hA:=hT.hA
    have kt:=hT.blk
    have o_kt:=hT.no
    have c_kt:=f3 kt;have l_ktw:=lt_of kt
    go_wp2_with fail
    refine cg fun VW1 hV_VW1=> ?_
    have hF:=Fr.refl ((oneX tb)) O w
    refine nef1 hV_VW1 hA hF kt ?_;clear hA hF kt c_kt;intro z_VW1 hA hF kt c_kt
    clear hV_VW1
    refine rC (lHigh_calls (t:=t) _ _ _ _ Hp.out ⟨hA,kt,o_kt⟩) fun W1 hb_W1=> ?_
    refine bef1 hb_W1 hA hF kt ?_;clear hb_W1 hA hF kt c_kt;intro z_W1 hA hF kt c_kt
    go_wp2_with fail
    refine cg fun VW2 hV_VW2=> ?_
    refine nef1 hV_VW2 hA hF kt ?_;clear hA hF kt c_kt;intro z_VW2 hA hF kt c_kt
    clear hV_VW2
    refine rC (lHigh_calls (t:=t) _ _ _ _ Hq.out ⟨hA,kt,o_kt⟩) fun W2 hb_W2=> ?_
    refine bef1 hb_W2 hA hF kt ?_;clear hb_W2 hA hF kt c_kt;intro z_W2 hA hF kt c_kt
    go_wp2_with fail
    refine cg fun VW3 hV_VW3=> ?_
    refine nef1 hV_VW3 hA hF kt ?_;clear hA hF kt c_kt;intro z_VW3 hA hF kt c_kt
    clear hV_VW3
    refine wC (drop_calls _ _ hA) fun W3 O1 hA_W3 hf_W3=> ?_
    refine wif1 hf_W3 hF kt o_kt ?_;clear hA hF kt o_kt c_kt hf_W3;intro z_W3 hF kt c_kt o_kt;have hA:=hA_W3;clear hA_W3
    go_wp2_with fail
    refine cg fun VW4 hV_VW4=> ?_
    refine nef1 hV_VW4 hA hF kt ?_;clear hA hF kt c_kt;intro z_VW4 hA hF kt c_kt
    clear hV_VW4
    refine wC (drop_calls _ _ hA) fun W4 O2 hA_W4 hf_W4=> ?_
    refine wif1 hf_W4 hF kt o_kt ?_;clear hA hF kt o_kt c_kt hf_W4;intro z_W4 hF kt c_kt o_kt;have hA:=hA_W4;clear hA_W4
    go_wp2_with fail
    go_ret
    exact ⟨rfl,O2,⟨hA,kt,o_kt⟩,hF⟩
end
section
open Go.RowKit
attribute [local go_sem ↓] Go.wp_at_zero Go.wp_at_succ
attribute [local go_sem] lt_s2 lt_s3 lt_s4
attribute [local go_sem] idx0 idx1 idx2 idx3
variable {ap : Value} {tb : Nat}
def OneC (tb:Nat) (ap:Value) (C:World→(Nat→Prop)→Prop) (f:FuncId) (caps:Array Value) (one:Tb→Int→Option (Int×Tb)):Prop:=
  ∀(t:Tb) (O:Nat→Prop) (h:Int) (r:Int×Tb) (w:World),one t h=some r→LB w tb ap t O→C w O→
    Calls Tryz.prog f (#[.int .i64 h]++caps) w fun e w'=>e= .returned (.int .i64 r.1)∧DidL tb ap r.2 O w w'
def KeepC (tb:Nat) (C:World→(Nat→Prop)→Prop):Prop:= ∀w w' O O',C w O→Fr (oneX tb) O O' w w'→C w' O'
section
variable {t : Tb} {O : Nat → Prop} {C : World → (Nat → Prop) → Prop} {f : FuncId} {caps : Array Value} {one : Tb → Int → Option (Int × Tb)}
theorem lChg_none (hfun : ∀ args w, (callFunc f args).run Tryz.prog w = .ok (.enter f args) w) (hKC : Hid (KeepC tb C)) (hone : Hid (OneC tb ap C f caps one)) (h i : Int) (r : Int × Tb) (w : World) (hr : one t h = some r) (h0 : lIs t.s h = false) (hT : LB w tb ap t O) (hC : C w O) :
    Calls Tryz.prog 195 #[.pointer (some ⟨tb,0,none⟩), .int .i64 h, .int .i64 i, .func (.func f) #[] caps] w fun e w'=>e= .returned (.int .i64 r.1)∧DidL tb ap r.2 O w w':=by
  have Hr:=Lib.hid hr;clear hr
  have HC:=Lib.hid hC;clear hC
  go_enter Tryz.func195,Tryz.ntmps195
  have hA:=hT.hA
  have kt:=hT.blk
  have o_kt:=hT.no
  have c_kt:=f3 kt;have l_ktw:=lt_of kt
  go_wp2_with fail
  refine cg fun V hV_V=> ?_
  have hF:=Fr.refl ((oneX tb)) O w
  refine nef1 hV_V hA hF kt ?_;clear hA hF kt c_kt;intro z_V hA hF kt c_kt
  clear hV_V
  refine rC (lRow_calls _ _ hA) fun W1 hb_W1=> ?_
  refine bef1 hb_W1 hA hF kt ?_;clear hb_W1 hA hF kt c_kt;intro z_W1 hA hF kt c_kt
  unfold Nd.val
  go_wp2_with fail
  refine cg fun V1 hV_V1=> ?_
  refine nef1 hV_V1 hA hF kt ?_;clear hA hF kt c_kt;intro z_V1 hA hF kt c_kt
  clear hV_V1
  refine tC (hone.out t O h r _ Hr.out ⟨hA,kt,o_kt⟩ (hKC.out _ _ _ _ HC.out hF)) fun W2 O1 hT hf=> ?_
  refine ti0 hT.hA hT.blk hT.no hf hF ?_;clear hA hF kt c_kt o_kt hT hf;intro z_W2 hA hF kt c_kt o_kt
  go_wp2_with fail
  go_ret
  exact ⟨rfl,O1,⟨hA,kt,o_kt⟩,hF⟩
theorem lChg_item (hfun : ∀ args w, (callFunc f args).run Tryz.prog w = .ok (.enter f args) w) (hKC : Hid (KeepC tb C)) (hone : Hid (OneC tb ap C f caps one)) (h i : Int) (r : Int × Tb) (w : World) (hr : one t h = some r) (h0 : lIs t.s h = true) (d1 : ((t.s.get h).tag == 4) = true) (hT : LB w tb ap t O) (hC : C w O) :
    Calls Tryz.prog 195 #[.pointer (some ⟨tb,0,none⟩), .int .i64 h, .int .i64 i, .func (.func f) #[] caps] w fun e w'=>e= .returned (.int .i64 r.1)∧DidL tb ap r.2 O w w':=by
  have Hr:=Lib.hid hr;clear hr
  have HC:=Lib.hid hC;clear hC
  go_enter Tryz.func195,Tryz.ntmps195
  have hA:=hT.hA
  have kt:=hT.blk
  have o_kt:=hT.no
  have c_kt:=f3 kt;have l_ktw:=lt_of kt
  go_wp2_with fail
  refine cg fun V hV_V=> ?_
  have hF:=Fr.refl ((oneX tb)) O w
  refine nef1 hV_V hA hF kt ?_;clear hA hF kt c_kt;intro z_V hA hF kt c_kt
  clear hV_V
  refine rC (lRow_calls _ _ hA) fun W1 hb_W1=> ?_
  refine bef1 hb_W1 hA hF kt ?_;clear hb_W1 hA hF kt c_kt;intro z_W1 hA hF kt c_kt
  unfold Nd.val
  go_wp2_with fail
  refine cg fun V1 hV_V1=> ?_
  refine nef1 hV_V1 hA hF kt ?_;clear hA hF kt c_kt;intro z_V1 hA hF kt c_kt
  clear hV_V1
  refine tC (hone.out t O h r _ Hr.out ⟨hA,kt,o_kt⟩ (hKC.out _ _ _ _ HC.out hF)) fun W2 O1 hT hf=> ?_
  refine ti0 hT.hA hT.blk hT.no hf hF ?_;clear hA hF kt c_kt o_kt hT hf;intro z_W2 hA hF kt c_kt o_kt
  go_wp2_with fail
  go_ret
  exact ⟨rfl,O1,⟨hA,kt,o_kt⟩,hF⟩
theorem lChg_high (k : Nat) (hKC : Hid (KeepC tb C)) (ih : Hid (∀ (t : Tb) (O : Nat → Prop) (h i : Int) (r : Int × Tb) (w : World), Tb.change one k t h i = some r → LB w tb ap t O → C w O → Calls Tryz.prog 195 #[.pointer (some ⟨tb, 0, none⟩), .int .i64 h, .int .i64 i, .func (.func f) #[] caps] w fun e w' => e = .returned (.int .i64 r.1) ∧ DidL tb ap r.2 O w w')) (h i : Int) (r : Int × Tb) (w : World) (h0 : lIs t.s h = true) (d1 : ((t.s.get h).tag == 4) = false) (d2 : decide (lLen t.s (t.s.get h).k0 ≤ i) = true)
    (hr:(Tb.change one k (t.keep (t.s.get h).k0) (t.s.get h).k1 (wrap64 (i - lLen t.s (t.s.get h).k0))).bind (fun r=>r.2.join (t.s.get h).k0 r.1)=some r) (hT:LB w tb ap t O) (hC:C w O):
    Calls Tryz.prog 195 #[.pointer (some ⟨tb,0,none⟩), .int .i64 h, .int .i64 i, .func (.func f) #[] caps] w fun e w'=>e= .returned (.int .i64 r.1)∧DidL tb ap r.2 O w w':=by
  obtain ⟨u,h_b,h_r⟩:=Option.bind_eq_some_iff.1 hr
  have Hu:=Lib.hid h_b;clear h_b hr;have hr:=h_r;clear h_r
  have Hr:=Lib.hid hr;clear hr
  have HC:=Lib.hid hC;clear hC
  go_enter Tryz.func195,Tryz.ntmps195
  have hA:=hT.hA
  have kt:=hT.blk
  have o_kt:=hT.no
  have c_kt:=f3 kt;have l_ktw:=lt_of kt
  go_wp2_with fail
  refine cg fun V hV_V=> ?_
  have hF:=Fr.refl ((oneX tb)) O w
  refine nef1 hV_V hA hF kt ?_;clear hA hF kt c_kt;intro z_V hA hF kt c_kt
  clear hV_V
  refine rC (lRow_calls _ _ hA) fun W1 hb_W1=> ?_
  refine bef1 hb_W1 hA hF kt ?_;clear hb_W1 hA hF kt c_kt;intro z_W1 hA hF kt c_kt
  unfold Nd.val
  go_wp2_with fail
  refine wg fun V1 hV_V1=> ?_
  refine nnf1 hV_V1 hA hF kt ?_;clear hA hF kt c_kt;intro hn_V1 z_V1 hA hF kt c_kt
  obtain ⟨kn,c_kn,o_kn,l_knV1⟩:=nN hn_V1 hV_V1 (W1.heap.size)
  clear hV_V1 hn_V1
  refine dr (fun v=>Sm v V1 (tb)∧Sm v V1 (W1.heap.size)∧(V1.heap.size≤v.heap.size)∧AP v ap t.s O) ⟨fun _=>rfl,fun _=>rfl,Nat.le_refl _,hA.drew⟩ fun V1d hV_V1d hHeld=> ?_
  have v_kt:=c_kt.1;have v_kn:=c_kn.1
  refine nef2 hV_V1d hA hF kt kn ?_;clear hA hF kt kn c_kt c_kn;intro z_V1d hA hF kt c_kt kn c_kn
  clear hV_V1d
  refine ta 0 hHeld ?_
  refine ta 1 hHeld ?_
  refine ta 2 hHeld ?_
  refine ta 3 hHeld ?_
  refine ta 4 hHeld ?_
  refine ta 5 hHeld ?_
  refine ta 6 hHeld ?_
  refine rd 7 rfl fun K hK=> ?_
  go_simp
  try simp only [IntWalk.i64_left]
  refine rC (lLen_calls _ _ hA) fun W2 hb_W2=> ?_
  refine bef2 hb_W2 hA hF kt kn ?_;clear hb_W2 hA hF kt kn c_kt c_kn;intro z_W2 hA hF kt c_kt kn c_kn
  refine ho hK ⟨vv c_kt v_kt,vv c_kn v_kn,by omega,hA⟩ fun hHeld=> ?_
  clear hK K
  refine rd 8 rfl fun K hK=> ?_
  go_simp
  refine ho hK hHeld fun hHeld=> ?_
  clear hK K
  refine wd ?_
  go_wp2_with fail
  refine wg fun V2 hV_V2=> ?_
  refine nef2 hV_V2 hA hF kt kn ?_;clear hA hF kt kn c_kt c_kn;intro z_V2 hA hF kt c_kt kn c_kn
  clear hV_V2
  refine dr (fun v=>(v.cell? ⟨tb,0,none⟩=V2.cell? ⟨tb,0,none⟩)∧Sm v V2 (W1.heap.size)∧(V2.heap.size≤v.heap.size)∧True) ⟨rfl,fun _=>rfl,Nat.le_refl _,trivial⟩ fun V2d hV_V2d hHeld=> ?_
  have v_kt:=c_kt.1;have v_kn:=c_kn.1
  refine nef2 hV_V2d hA hF kt kn ?_;clear hA hF kt kn c_kt c_kn;intro z_V2d hA hF kt c_kt kn c_kn
  clear hV_V2d
  refine ta 0 hHeld ?_
  refine ta 1 hHeld ?_
  refine ta 2 hHeld ?_
  refine ta 3 hHeld ?_
  refine ta 4 hHeld ?_
  refine ta 6 hHeld ?_
  refine ta 7 hHeld ?_
  refine ta 8 hHeld ?_
  refine ta 9 hHeld ?_
  refine ta 10 hHeld ?_
  refine ta 11 hHeld ?_
  refine ta 12 hHeld ?_
  refine ta 13 hHeld ?_
  refine rd 5 rfl fun K hK=> ?_
  go_simp
  try simp only [IntWalk.i64_left]
  refine tC (lKeep_calls (t:=t) (t.s.get h).k0 _ ⟨hA,kt,o_kt⟩) fun W3 O1 hT hf=> ?_
  refine ti1 hT.hA hT.blk hT.no hf hF kn o_kn ?_;clear hA hF kt c_kt o_kt kn o_kn c_kn hT hf;intro z_W3 hA hF kt c_kt o_kt kn c_kn o_kn
  refine ho hK ⟨vo c_kt v_kt 0,vv c_kn v_kn,by omega,trivial⟩ fun hHeld=> ?_
  clear hK K
  refine rd 14 rfl fun K hK=> ?_
  go_simp
  try simp only [IntWalk.i64_left]
  refine tC (ih.out (t.keep (t.s.get h).k0) _ _ _ _ _ Hu.out ⟨hA,kt,o_kt⟩ (hKC.out _ _ _ _ HC.out hF)) fun W4 O2 hT hf=> ?_
  refine ti1 hT.hA hT.blk hT.no hf hF kn o_kn ?_;clear hA hF kt c_kt o_kt kn o_kn c_kn hT hf;intro z_W4 hA hF kt c_kt o_kt kn c_kn o_kn
  refine ho hK ⟨vo c_kt v_kt 0,vv c_kn v_kn,by omega,trivial⟩ fun hHeld=> ?_
  clear hK K
  refine rd 15 rfl fun K hK=> ?_
  go_simp
  try simp only [IntWalk.i64_left]
  refine tC (lJoin_calls (t:=u.2) _ _ _ Hr.out _ ⟨hA,kt,o_kt⟩) fun W5 O3 hT hf=> ?_
  refine ti1 hT.hA hT.blk hT.no hf hF kn o_kn ?_;clear hA hF kt c_kt o_kt kn o_kn c_kn hT hf;intro z_W5 hA hF kt c_kt o_kt kn c_kn o_kn
  refine ho hK ⟨vo c_kt v_kt 0,vv c_kn v_kn,by omega,trivial⟩ fun hHeld=> ?_
  clear hK K
  refine rd 16 rfl fun K hK=> ?_
  go_simp
  refine ho hK hHeld fun hHeld=> ?_
  clear hK K
  refine wd ?_
  go_wp2_with fail
  go_ret
  exact ⟨rfl,O3,⟨hA,kt,o_kt⟩,hF⟩
theorem lChg_low (k : Nat) (hKC : Hid (KeepC tb C)) (ih : Hid (∀ (t : Tb) (O : Nat → Prop) (h i : Int) (r : Int × Tb) (w : World), Tb.change one k t h i = some r → LB w tb ap t O → C w O → Calls Tryz.prog 195 #[.pointer (some ⟨tb, 0, none⟩), .int .i64 h, .int .i64 i, .func (.func f) #[] caps] w fun e w' => e = .returned (.int .i64 r.1) ∧ DidL tb ap r.2 O w w')) (h i : Int) (r : Int × Tb) (w : World) (h0 : lIs t.s h = true) (d1 : ((t.s.get h).tag == 4) = false) (d2 : decide (lLen t.s (t.s.get h).k0 ≤ i) = false)
    (hr:(Tb.change one k t (t.s.get h).k0 i).bind (fun r=>(r.2.keep (t.s.get h).k1).join r.1 (t.s.get h).k1)=some r) (hT:LB w tb ap t O) (hC:C w O):
    Calls Tryz.prog 195 #[.pointer (some ⟨tb,0,none⟩), .int .i64 h, .int .i64 i, .func (.func f) #[] caps] w fun e w'=>e= .returned (.int .i64 r.1)∧DidL tb ap r.2 O w w':=by
  obtain ⟨u,h_b,h_r⟩:=Option.bind_eq_some_iff.1 hr
  have Hu:=Lib.hid h_b;clear h_b hr;have hr:=h_r;clear h_r
  have Hr:=Lib.hid hr;clear hr
  have HC:=Lib.hid hC;clear hC
  go_enter Tryz.func195,Tryz.ntmps195
  have hA:=hT.hA
  have kt:=hT.blk
  have o_kt:=hT.no
  have c_kt:=f3 kt;have l_ktw:=lt_of kt
  go_wp2_with fail
  refine cg fun V hV_V=> ?_
  have hF:=Fr.refl ((oneX tb)) O w
  refine nef1 hV_V hA hF kt ?_;clear hA hF kt c_kt;intro z_V hA hF kt c_kt
  clear hV_V
  refine rC (lRow_calls _ _ hA) fun W1 hb_W1=> ?_
  refine bef1 hb_W1 hA hF kt ?_;clear hb_W1 hA hF kt c_kt;intro z_W1 hA hF kt c_kt
  unfold Nd.val
  go_wp2_with fail
  refine wg fun V1 hV_V1=> ?_
  refine nnf1 hV_V1 hA hF kt ?_;clear hA hF kt c_kt;intro hn_V1 z_V1 hA hF kt c_kt
  obtain ⟨kn,c_kn,o_kn,l_knV1⟩:=nN hn_V1 hV_V1 (W1.heap.size)
  clear hV_V1 hn_V1
  refine dr (fun v=>Sm v V1 (tb)∧Sm v V1 (W1.heap.size)∧(V1.heap.size≤v.heap.size)∧AP v ap t.s O) ⟨fun _=>rfl,fun _=>rfl,Nat.le_refl _,hA.drew⟩ fun V1d hV_V1d hHeld=> ?_
  have v_kt:=c_kt.1;have v_kn:=c_kn.1
  refine nef2 hV_V1d hA hF kt kn ?_;clear hA hF kt kn c_kt c_kn;intro z_V1d hA hF kt c_kt kn c_kn
  clear hV_V1d
  refine ta 0 hHeld ?_
  refine ta 1 hHeld ?_
  refine ta 2 hHeld ?_
  refine ta 3 hHeld ?_
  refine ta 4 hHeld ?_
  refine ta 5 hHeld ?_
  refine ta 6 hHeld ?_
  refine rd 7 rfl fun K hK=> ?_
  go_simp
  try simp only [IntWalk.i64_left]
  refine rC (lLen_calls _ _ hA) fun W2 hb_W2=> ?_
  refine bef2 hb_W2 hA hF kt kn ?_;clear hb_W2 hA hF kt kn c_kt c_kn;intro z_W2 hA hF kt c_kt kn c_kn
  refine ho hK ⟨vv c_kt v_kt,vv c_kn v_kn,by omega,hA⟩ fun hHeld=> ?_
  clear hK K
  refine rd 8 rfl fun K hK=> ?_
  go_simp
  refine ho hK hHeld fun hHeld=> ?_
  clear hK K
  refine wd ?_
  go_wp2_with fail
  refine wg fun V2 hV_V2=> ?_
  refine nef2 hV_V2 hA hF kt kn ?_;clear hA hF kt kn c_kt c_kn;intro z_V2 hA hF kt c_kt kn c_kn
  clear hV_V2
  refine dr (fun v=>(v.cell? ⟨tb,0,none⟩=V2.cell? ⟨tb,0,none⟩)∧Sm v V2 (W1.heap.size)∧(V2.heap.size≤v.heap.size)∧True) ⟨rfl,fun _=>rfl,Nat.le_refl _,trivial⟩ fun V2d hV_V2d hHeld=> ?_
  have v_kt:=c_kt.1;have v_kn:=c_kn.1
  refine nef2 hV_V2d hA hF kt kn ?_;clear hA hF kt kn c_kt c_kn;intro z_V2d hA hF kt c_kt kn c_kn
  clear hV_V2d
  refine ta 0 hHeld ?_
  refine ta 1 hHeld ?_
  refine ta 2 hHeld ?_
  refine ta 3 hHeld ?_
  refine ta 4 hHeld ?_
  refine ta 5 hHeld ?_
  refine ta 6 hHeld ?_
  refine ta 8 hHeld ?_
  refine ta 9 hHeld ?_
  refine ta 10 hHeld ?_
  refine ta 11 hHeld ?_
  refine rd 7 rfl fun K hK=> ?_
  go_simp
  try simp only [IntWalk.i64_left]
  refine tC (ih.out t _ _ _ _ _ Hu.out ⟨hA,kt,o_kt⟩ (hKC.out _ _ _ _ HC.out hF)) fun W3 O1 hT hf=> ?_
  refine ti1 hT.hA hT.blk hT.no hf hF kn o_kn ?_;clear hA hF kt c_kt o_kt kn o_kn c_kn hT hf;intro z_W3 hA hF kt c_kt o_kt kn c_kn o_kn
  refine ho hK ⟨vo c_kt v_kt 0,vv c_kn v_kn,by omega,trivial⟩ fun hHeld=> ?_
  clear hK K
  refine rd 12 rfl fun K hK=> ?_
  go_simp
  try simp only [IntWalk.i64_left]
  refine tC (lKeep_calls (t:=u.2) (t.s.get h).k1 _ ⟨hA,kt,o_kt⟩) fun W4 O2 hT hf=> ?_
  refine ti1 hT.hA hT.blk hT.no hf hF kn o_kn ?_;clear hA hF kt c_kt o_kt kn o_kn c_kn hT hf;intro z_W4 hA hF kt c_kt o_kt kn c_kn o_kn
  refine ho hK ⟨vo c_kt v_kt 0,vv c_kn v_kn,by omega,trivial⟩ fun hHeld=> ?_
  clear hK K
  refine rd 13 rfl fun K hK=> ?_
  go_simp
  try simp only [IntWalk.i64_left]
  refine tC (lJoin_calls (t:=u.2.keep (t.s.get h).k1) _ _ _ Hr.out _ ⟨hA,kt,o_kt⟩) fun W5 O3 hT hf=> ?_
  refine ti1 hT.hA hT.blk hT.no hf hF kn o_kn ?_;clear hA hF kt c_kt o_kt kn o_kn c_kn hT hf;intro z_W5 hA hF kt c_kt o_kt kn c_kn o_kn
  refine ho hK ⟨vo c_kt v_kt 0,vv c_kn v_kn,by omega,trivial⟩ fun hHeld=> ?_
  clear hK K
  refine rd 14 rfl fun K hK=> ?_
  go_simp
  refine ho hK hHeld fun hHeld=> ?_
  clear hK K
  refine wd ?_
  go_wp2_with fail
  go_ret
  exact ⟨rfl,O3,⟨hA,kt,o_kt⟩,hF⟩
end
theorem lChange_calls {C : World → (Nat → Prop) → Prop} {f : FuncId} {caps : Array Value} {one : Tb → Int → Option (Int × Tb)} (hfun : ∀ args w, (callFunc f args).run Tryz.prog w = .ok (.enter f args) w) (hKC : Hid (KeepC tb C)) (hone : Hid (OneC tb ap C f caps one)) :
    ∀(k:Nat) (t:Tb) (O:Nat→Prop) (h i:Int) (r:Int×Tb) (w:World),Tb.change one k t h i=some r→LB w tb ap t O→C w O→
    Calls Tryz.prog 195 #[.pointer (some ⟨tb,0,none⟩), .int .i64 h, .int .i64 i, .func (.func f) #[] caps] w fun e w'=>e= .returned (.int .i64 r.1)∧DidL tb ap r.2 O w w'
  | 0,t,O,h,i,r,w,hr,hT,hC=>by cases hr
  | k+1,t,O,h,i,r,w,hr,hT,hC=>by
    have ih:=Lib.hid (lChange_calls hfun hKC hone k)
    unfold Tb.change at hr
    cases h0:lIs t.s h with
    | false=>
      rw [if_pos (.inl h0)] at hr
      exact lChg_none hfun hKC hone h i r w hr h0 hT hC
    | true=>
      by_cases h1:(t.s.get h).tag=4
      · rw [if_pos (.inr h1)] at hr
        exact lChg_item hfun hKC hone h i r w hr h0 (by simpa using h1) hT hC
      · rw [if_neg (by rw [h0];simp [h1])] at hr
        by_cases h2:lLen t.s (t.s.get h).k0≤i
        · rw [if_pos h2] at hr
          exact lChg_high k hKC ih h i r w h0 (by simpa using h1) (by simpa using h2) hr hT hC
        · rw [if_neg h2] at hr
          exact lChg_low k hKC ih h i r w h0 (by simpa using h1) (by simpa using h2) hr hT hC
end
section
open Go.RowKit
attribute [local go_sem ↓] Go.wp_at_zero Go.wp_at_succ
attribute [local go_sem] lt_s2 lt_s3 lt_s4
variable {ap : Value} {O : Nat → Prop} {s : Ar} {tb : Nat}
structure InsC (tb bt bx bn bi:Nat) (x:Int×Int) (n i:Int) (w:World) (O:Nat→Prop):Prop where
  ct:w.heap[bt]? =some (.cells #[.pointer (some ⟨tb,0,none⟩)] 235 (0,0))
  cx:w.heap[bx]? =some (.cells #[.int .i64 x.1, .int .i64 x.2] 140 (0,0))
  cn:w.heap[bn]? =some (.cells #[.int .i64 n] 3 (0,0))
  ci:w.heap[bi]? =some (.cells #[.int .i64 i] 3 (0,0))
  ot: ¬O bt
  ox: ¬O bx
  on: ¬O bn
  oi: ¬O bi
  nt:bt≠tb
  nx:bx≠tb
  nn:bn≠tb
  ni:bi≠tb
theorem InsC.keepC (tb bt bx bn bi:Nat) (x:Int×Int) (n i:Int):KeepC tb (InsC tb bt bx bn bi x n i):=by
  intro w w' O O' h hF
  exact ⟨hF.keep h.ct h.ot h.nt,hF.keep h.cx h.ox h.nx,hF.keep h.cn h.on h.nn,hF.keep h.ci h.oi h.ni,hF.not_own (lt_of h.ct) h.ot,hF.not_own (lt_of h.cx) h.ox,hF.not_own (lt_of h.cn) h.on,hF.not_own (lt_of h.ci) h.oi,h.nt,h.nx,h.nn,h.ni⟩
theorem lMay_calls (x:Int×Int) (i most:Int) (w:World):Calls Tryz.prog 193 #[.agg #[.int .i64 x.1, .int .i64 x.2], .int .i64 i, .int .i64 most] w fun e w'=>e= .returned (.int .i64 (lMay x i most))∧Below w.heap.size w w':=by
  unfold lMay
  by_cases h1:x.1<0
  · have d1:decide (x.1<0)=true:=by simpa using h1
    rw [if_pos (.inl h1)]
    clear h1
    go_enter Tryz.func193,Tryz.ntmps193
    go_wp2_with fail
    go_ret
    exact ⟨rfl,bel⟩
  · have d1:decide (x.1<0)=false:=by simpa using h1
    by_cases h2:x.2<0
    · have d2:decide (x.2<0)=true:=by simpa using h2
      rw [if_pos (.inr h2)]
      clear h1 h2
      go_enter Tryz.func193,Tryz.ntmps193
      go_wp2_with fail
      go_ret
      exact ⟨rfl,bel⟩
    · have d2:decide (x.2<0)=false:=by simpa using h2
      rw [if_neg (by omega)]
      clear h1 h2
      by_cases h3:i<0
      · have d3:decide (i<0)=true:=by simpa using h3
        rw [if_pos (.inl h3)]
        clear h3
        go_enter Tryz.func193,Tryz.ntmps193
        go_wp2_with fail
        go_ret
        exact ⟨rfl,bel⟩
      · have d3:decide (i<0)=false:=by simpa using h3
        by_cases h4:most<i
        · have d4:decide (most<i)=true:=by simpa using h4
          rw [if_pos (.inr h4)]
          clear h3 h4
          go_enter Tryz.func193,Tryz.ntmps193
          go_wp2_with fail
          go_ret
          exact ⟨rfl,bel⟩
        · have d4:decide (most<i)=false:=by simpa using h4
          rw [if_neg (by omega)]
          clear h3 h4
          go_enter Tryz.func193,Tryz.ntmps193
          go_wp2_with fail
          go_ret
          exact ⟨rfl,bel⟩
variable {t : Tb}
theorem lIns1_none (bt bx bn bi : Nat) (x : Int × Int) (n i : Int) (d1 : (n == 0) = true) (h : Int) (w : World) (hT : LB w tb ap t O) (hC : InsC tb bt bx bn bi x n i w O) :
    Calls Tryz.prog 196 #[.int .i64 h, .pointer (some ⟨bt,0,none⟩), .pointer (some ⟨bx,0,none⟩), .pointer (some ⟨bn,0,none⟩), .pointer (some ⟨bi,0,none⟩)] w fun e w'=>e= .returned (.int .i64 (t.item x).1)∧DidL tb ap (t.item x).2 O w w':=by
  have ct:=cells_of hC.ct;have cx:=cells_of hC.cx;have cn:=cells_of hC.cn;have ci:=cells_of hC.ci
  have HC:=Lib.hid hC;clear hC
  go_enter Tryz.func196,Tryz.ntmps196
  have hA:=hT.hA
  have kt:=hT.blk
  have o_kt:=hT.no
  have c_kt:=f3 kt;have l_ktw:=lt_of kt
  go_wp2_with fail
  refine cg fun V hV_V=> ?_
  have hF:=Fr.refl ((oneX tb)) O w
  refine nef1 hV_V hA hF kt ?_;clear hA hF kt c_kt;intro z_V hA hF kt c_kt
  clear hV_V
  clear ct cx cn ci
  have hC:=InsC.keepC _ _ _ _ _ _ _ _ _ _ _ _ HC.out hF
  have ct:=cells_of hC.ct;have cx:=cells_of hC.cx;have cn:=cells_of hC.cn;have ci:=cells_of hC.ci
  have HC2:=Lib.hid hC;clear hC
  refine tC (lItem_calls (t:=t) x _ ⟨hA,kt,o_kt⟩) fun W1 O1 hT hf=> ?_
  refine ti0 hT.hA hT.blk hT.no hf hF ?_;clear hA hF kt c_kt o_kt hT hf;intro z_W1 hA hF kt c_kt o_kt
  clear ct cx cn ci
  have hC:=InsC.keepC _ _ _ _ _ _ _ _ _ _ _ _ HC.out hF
  have ct:=cells_of hC.ct;have cx:=cells_of hC.cx;have cn:=cells_of hC.cn;have ci:=cells_of hC.ci
  clear hC
  go_wp2_with fail
  go_ret
  exact ⟨rfl,O1,⟨hA,kt,o_kt⟩,hF⟩
theorem lIns1_last (bt bx bn bi : Nat) (x : Int × Int) (n i : Int) (d1 : (n == 0) = false) (d2 : (i == n) = true) (h : Int) (r : Int × Tb) (hr : ((t.item x).2.keep h).join h (t.item x).1 = some r) (w : World) (hT : LB w tb ap t O) (hC : InsC tb bt bx bn bi x n i w O) :
    Calls Tryz.prog 196 #[.int .i64 h, .pointer (some ⟨bt,0,none⟩), .pointer (some ⟨bx,0,none⟩), .pointer (some ⟨bn,0,none⟩), .pointer (some ⟨bi,0,none⟩)] w fun e w'=>e= .returned (.int .i64 r.1)∧DidL tb ap r.2 O w w':=by
  have Hr:=Lib.hid hr;clear hr
  have ct:=cells_of hC.ct;have cx:=cells_of hC.cx;have cn:=cells_of hC.cn;have ci:=cells_of hC.ci
  have HC:=Lib.hid hC;clear hC
  go_enter Tryz.func196,Tryz.ntmps196
  have hA:=hT.hA
  have kt:=hT.blk
  have o_kt:=hT.no
  have c_kt:=f3 kt;have l_ktw:=lt_of kt
  go_wp2_with fail
  refine cg fun V hV_V=> ?_
  have hF:=Fr.refl ((oneX tb)) O w
  refine nef1 hV_V hA hF kt ?_;clear hA hF kt c_kt;intro z_V hA hF kt c_kt
  clear hV_V
  clear ct cx cn ci
  refine tC (lItem_calls (t:=t) x _ ⟨hA,kt,o_kt⟩) fun W1 O1 hT hf=> ?_
  refine ti0 hT.hA hT.blk hT.no hf hF ?_;clear hA hF kt c_kt o_kt hT hf;intro z_W1 hA hF kt c_kt o_kt
  have hC:=InsC.keepC _ _ _ _ _ _ _ _ _ _ _ _ HC.out hF
  have kb:=hC.ct
  have o_kb:=hC.ot
  have e_kb:=hC.nt
  have ct:=cells_of hC.ct;have cx:=cells_of hC.cx;have cn:=cells_of hC.cn;have ci:=cells_of hC.ci
  clear hC
  have c_kb:=f3 kb;have l_kbW1:=lt_of kb
  go_wp2_with fail
  refine wg fun V2 hV_V2=> ?_
  refine nef2 hV_V2 hA hF kt kb ?_;clear hA hF kt kb c_kt c_kb;intro z_V2 hA hF kt c_kt kb c_kb
  clear hV_V2
  clear ct cx cn ci
  refine dr (fun v=>(v.cell? ⟨tb,0,none⟩=V2.cell? ⟨tb,0,none⟩)∧Sm v V2 (bt)∧(V2.heap.size≤v.heap.size)∧True) ⟨rfl,fun _=>rfl,Nat.le_refl _,trivial⟩ fun V2d hV_V2d hHeld=> ?_
  have v_kt:=c_kt.1;have v_kb:=c_kb.1
  refine nef2 hV_V2d hA hF kt kb ?_;clear hA hF kt kb c_kt c_kb;intro z_V2d hA hF kt c_kt kb c_kb
  clear hV_V2d
  refine ta 0 hHeld ?_
  refine ta 1 hHeld ?_
  refine ta 2 hHeld ?_
  refine ta 4 hHeld ?_
  refine rd 3 rfl fun K hK=> ?_
  go_simp
  try simp only [IntWalk.i64_left]
  refine tC (lKeep_calls (t:=(t.item x).2) h _ ⟨hA,kt,o_kt⟩) fun W2 O2 hT hf=> ?_
  refine ti1 hT.hA hT.blk hT.no hf hF kb o_kb ?_;clear hA hF kt c_kt o_kt kb o_kb c_kb hT hf;intro z_W2 hA hF kt c_kt o_kt kb c_kb o_kb
  refine ho hK ⟨vo c_kt v_kt 0,vv c_kb v_kb,by omega,trivial⟩ fun hHeld=> ?_
  clear hK K
  refine rd 5 rfl fun K hK=> ?_
  go_simp
  try simp only [IntWalk.i64_left]
  refine tC (lJoin_calls (t:=(t.item x).2.keep h) _ _ _ Hr.out _ ⟨hA,kt,o_kt⟩) fun W3 O3 hT hf=> ?_
  refine ti1 hT.hA hT.blk hT.no hf hF kb o_kb ?_;clear hA hF kt c_kt o_kt kb o_kb c_kb hT hf;intro z_W3 hA hF kt c_kt o_kt kb c_kb o_kb
  refine ho hK ⟨vo c_kt v_kt 0,vv c_kb v_kb,by omega,trivial⟩ fun hHeld=> ?_
  clear hK K
  refine rd 6 rfl fun K hK=> ?_
  go_simp
  refine ho hK hHeld fun hHeld=> ?_
  clear hK K
  refine wd ?_
  go_wp2_with fail
  go_ret
  exact ⟨rfl,O3,⟨hA,kt,o_kt⟩,hF⟩
theorem lIns1_ahead (bt bx bn bi : Nat) (x : Int × Int) (n i : Int) (d1 : (n == 0) = false) (d2 : (i == n) = false) (h : Int) (r : Int × Tb) (hr : ((t.item x).2.keep h).join (t.item x).1 h = some r) (w : World) (hT : LB w tb ap t O) (hC : InsC tb bt bx bn bi x n i w O) :
    Calls Tryz.prog 196 #[.int .i64 h, .pointer (some ⟨bt,0,none⟩), .pointer (some ⟨bx,0,none⟩), .pointer (some ⟨bn,0,none⟩), .pointer (some ⟨bi,0,none⟩)] w fun e w'=>e= .returned (.int .i64 r.1)∧DidL tb ap r.2 O w w':=by
  have Hr:=Lib.hid hr;clear hr
  have ct:=cells_of hC.ct;have cx:=cells_of hC.cx;have cn:=cells_of hC.cn;have ci:=cells_of hC.ci
  have HC:=Lib.hid hC;clear hC
  go_enter Tryz.func196,Tryz.ntmps196
  have hA:=hT.hA
  have kt:=hT.blk
  have o_kt:=hT.no
  have c_kt:=f3 kt;have l_ktw:=lt_of kt
  go_wp2_with fail
  refine cg fun V hV_V=> ?_
  have hF:=Fr.refl ((oneX tb)) O w
  refine nef1 hV_V hA hF kt ?_;clear hA hF kt c_kt;intro z_V hA hF kt c_kt
  clear hV_V
  clear ct cx cn ci
  refine tC (lItem_calls (t:=t) x _ ⟨hA,kt,o_kt⟩) fun W1 O1 hT hf=> ?_
  refine ti0 hT.hA hT.blk hT.no hf hF ?_;clear hA hF kt c_kt o_kt hT hf;intro z_W1 hA hF kt c_kt o_kt
  have hC:=InsC.keepC _ _ _ _ _ _ _ _ _ _ _ _ HC.out hF
  have kb:=hC.ct
  have o_kb:=hC.ot
  have e_kb:=hC.nt
  have ct:=cells_of hC.ct;have cx:=cells_of hC.cx;have cn:=cells_of hC.cn;have ci:=cells_of hC.ci
  clear hC
  have c_kb:=f3 kb;have l_kbW1:=lt_of kb
  go_wp2_with fail
  refine wg fun V2 hV_V2=> ?_
  refine nef2 hV_V2 hA hF kt kb ?_;clear hA hF kt kb c_kt c_kb;intro z_V2 hA hF kt c_kt kb c_kb
  clear hV_V2
  clear ct cx cn ci
  refine dr (fun v=>(v.cell? ⟨tb,0,none⟩=V2.cell? ⟨tb,0,none⟩)∧Sm v V2 (bt)∧(V2.heap.size≤v.heap.size)∧True) ⟨rfl,fun _=>rfl,Nat.le_refl _,trivial⟩ fun V2d hV_V2d hHeld=> ?_
  have v_kt:=c_kt.1;have v_kb:=c_kb.1
  refine nef2 hV_V2d hA hF kt kb ?_;clear hA hF kt kb c_kt c_kb;intro z_V2d hA hF kt c_kt kb c_kb
  clear hV_V2d
  refine ta 0 hHeld ?_
  refine ta 1 hHeld ?_
  refine ta 2 hHeld ?_
  refine ta 3 hHeld ?_
  refine rd 4 rfl fun K hK=> ?_
  go_simp
  try simp only [IntWalk.i64_left]
  refine tC (lKeep_calls (t:=(t.item x).2) h _ ⟨hA,kt,o_kt⟩) fun W2 O2 hT hf=> ?_
  refine ti1 hT.hA hT.blk hT.no hf hF kb o_kb ?_;clear hA hF kt c_kt o_kt kb o_kb c_kb hT hf;intro z_W2 hA hF kt c_kt o_kt kb c_kb o_kb
  refine ho hK ⟨vo c_kt v_kt 0,vv c_kb v_kb,by omega,trivial⟩ fun hHeld=> ?_
  clear hK K
  refine rd 5 rfl fun K hK=> ?_
  go_simp
  try simp only [IntWalk.i64_left]
  refine tC (lJoin_calls (t:=(t.item x).2.keep h) _ _ _ Hr.out _ ⟨hA,kt,o_kt⟩) fun W3 O3 hT hf=> ?_
  refine ti1 hT.hA hT.blk hT.no hf hF kb o_kb ?_;clear hA hF kt c_kt o_kt kb o_kb c_kb hT hf;intro z_W3 hA hF kt c_kt o_kt kb c_kb o_kb
  refine ho hK ⟨vo c_kt v_kt 0,vv c_kb v_kb,by omega,trivial⟩ fun hHeld=> ?_
  clear hK K
  refine rd 6 rfl fun K hK=> ?_
  go_simp
  refine ho hK hHeld fun hHeld=> ?_
  clear hK K
  refine wd ?_
  go_wp2_with fail
  go_ret
  exact ⟨rfl,O3,⟨hA,kt,o_kt⟩,hF⟩
theorem minmax2 (i m:Int) {P:Prop} (h1:(m<0)=True→(0<i)=True→imin i (imax m 0)=0→P) (h2:(m<0)=True→(0<i)=False→imin i (imax m 0)=i→P) (h3:(m<0)=False→(m<i)=True→imin i (imax m 0)=m→P) (h4:(m<0)=False→(m<i)=False→imin i (imax m 0)=i→P):P:=by
  by_cases c1:m<0
  · by_cases c2:0<i
    · exact h1 (eq_true c1) (eq_true c2) (by unfold imin imax;split<;>split<;>omega)
    · exact h2 (eq_true c1) (eq_false c2) (by unfold imin imax;split<;>split<;>omega)
  · by_cases c2:m<i
    · exact h3 (eq_false c1) (eq_true c2) (by unfold imin imax;split<;>split<;>omega)
    · exact h4 (eq_false c1) (eq_false c2) (by unfold imin imax;split<;>split<;>omega)
theorem lIns1_calls (tb bt bx bn bi:Nat) (x:Int×Int) (n i:Int):OneC tb ap (InsC tb bt bx bn bi x n i) 196 #[.pointer (some ⟨bt,0,none⟩), .pointer (some ⟨bx,0,none⟩), .pointer (some ⟨bn,0,none⟩), .pointer (some ⟨bi,0,none⟩)] (lInsOne n i x):=by
  intro t O h r w hr hT hC
  show Calls Tryz.prog _ #[.int .i64 h, .pointer (some ⟨bt,0,none⟩), .pointer (some ⟨bx,0,none⟩), .pointer (some ⟨bn,0,none⟩), .pointer (some ⟨bi,0,none⟩)] _ _
  unfold lInsOne at hr
  dsimp only at hr
  by_cases h1:n=0
  · rw [if_pos h1] at hr
    obtain rfl:=Option.some.inj hr
    exact lIns1_none bt bx bn bi x n i (by simpa using h1) h w hT hC
  · rw [if_neg h1] at hr
    by_cases h2:i=n
    · rw [if_pos h2] at hr
      exact lIns1_last bt bx bn bi x n i (by simpa using h1) (by simpa using h2) h r hr w hT hC
    · rw [if_neg h2] at hr
      exact lIns1_ahead bt bx bn bi x n i (by simpa using h1) (by simpa using h2) h r hr w hT hC
theorem told_s (u:Int×Tb):(Tb.told u).2.2=u.2.s:=by unfold Tb.told;split<;>rfl
theorem lIns1_fun (args:Array Value) (w:World):(callFunc 196 args).run Tryz.prog w= .ok (.enter 196 args) w:=by kernel_rfl
theorem lInsert_calls (h i : Int) (x : Int × Int) (r : Int × Int × Ar) (hr : lInsert s h i x = some r) (w : World) (hA : AP w ap s O) :
    Calls Tryz.prog 79 #[ap, .int .i64 h, .int .i64 i, .agg #[.int .i64 x.1, .int .i64 x.2]] w fun e w'=>e= .returned (.tuple #[.int .i64 r.1, .int .i64 r.2.1])∧Did noX ap r.2.2 O w w':=by
  obtain ⟨q,rfl⟩:=hA.ptr
  unfold lInsert at hr
  by_cases h1:lMay x i (lLen s h)=0
  · have d1:(lMay x i (lLen s h) !=0)=false:=by simp [h1]
    rw [if_pos h1] at hr
    obtain ⟨u,hu,rfl⟩:=Option.map_eq_some_iff.1 hr
    clear hr h1
    obtain ⟨m,hm⟩: ∃m,m=wrap64 (lLen s h - 1):=⟨_,rfl⟩
    rw [←hm] at hu
    refine minmax2 i m ?_ ?_ ?_ ?_<;>intro c1 c2 hmm<;>rw [hmm] at hu<;>clear hmm<;>subst hm
    all_goals
      have Hu:=Lib.hid hu;clear hu
      go_enter Tryz.func79,Tryz.ntmps79
      go_wp2_with fail
      refine cg fun V hV_V=> ?_
      have hF:=Fr.refl (noX) O w
      refine nnf0 hV_V hA hF ?_;clear hA hF;intro hn_V z_V hA hF
      obtain ⟨ki,c_ki,o_ki,l_kiV⟩:=nN hn_V hV_V (w.heap.size)
      obtain ⟨kx,c_kx,o_kx,l_kxV⟩:=nN hn_V hV_V (w.heap.size+1)
      clear hV_V hn_V
      refine rC (lLen_calls _ _ hA) fun W1 hb_W1=> ?_
      refine bef2 hb_W1 hA hF ki kx ?_;clear hb_W1 hA hF ki kx c_ki c_kx;intro z_W1 hA hF ki c_ki kx c_kx
      go_wp2_with fail
      refine cg fun V1 hV_V1=> ?_
      refine nnf2 hV_V1 hA hF ki kx ?_;clear hA hF ki kx c_ki c_kx;intro hn_V1 z_V1 hA hF ki c_ki kx c_kx
      obtain ⟨kn,c_kn,o_kn,l_knV1⟩:=nN hn_V1 hV_V1 (W1.heap.size)
      clear hV_V1 hn_V1
      refine rC (lMay_calls x i (lLen s h) _) fun W2 hb_W2=> ?_
      refine bef3 hb_W2 hA hF ki kx kn ?_;clear hb_W2 hA hF ki kx kn c_ki c_kx c_kn;intro z_W2 hA hF ki c_ki kx c_kx kn c_kn
      go_wp2_with fail
      refine wg fun V2 hV_V2=> ?_
      refine nnf3 hV_V2 hA hF ki kx kn ?_;clear hA hF ki kx kn c_ki c_kx c_kn;intro hn_V2 z_V2 hA hF ki c_ki kx c_kx kn c_kn
      obtain ⟨kt,c_kt,o_kt,l_ktV2⟩:=nN hn_V2 hV_V2 (W2.heap.size)
      obtain ⟨kb,c_kb,o_kb,l_kbV2⟩:=nN hn_V2 hV_V2 (W2.heap.size+1)
      clear hV_V2 hn_V2
      refine dr (fun v=>Sm v V2 (w.heap.size)∧Sm v V2 (w.heap.size+1)∧Sm v V2 (W1.heap.size)∧(v.cell? ⟨W2.heap.size,0,none⟩=V2.cell? ⟨W2.heap.size,0,none⟩)∧Sm v V2 (W2.heap.size+1)∧(V2.heap.size≤v.heap.size)∧True) ⟨fun _=>rfl,fun _=>rfl,fun _=>rfl,rfl,fun _=>rfl,Nat.le_refl _,trivial⟩ fun V2d hV_V2d hHeld=> ?_
      have v_ki:=c_ki.1;have v_kx:=c_kx.1;have v_kn:=c_kn.1;have v_kt:=c_kt.1;have v_kb:=c_kb.1
      refine nef5 hV_V2d hA hF ki kx kn kt kb ?_;clear hA hF ki kx kn kt kb c_ki c_kx c_kn c_kt c_kb;intro z_V2d hA hF ki c_ki kx c_kx kn c_kn kt c_kt kb c_kb
      clear hV_V2d
      refine ta 0 hHeld ?_
      refine ta 1 hHeld ?_
      refine ta 2 hHeld ?_
      refine ta 3 hHeld ?_
      refine ta 4 hHeld ?_
      refine ta 5 hHeld ?_
      refine ta 6 hHeld ?_
      refine ta 7 hHeld ?_
      refine ta 8 hHeld ?_
      refine rd 9 rfl fun K hK=> ?_
      go_simp
      try simp only [IntWalk.i64_left]
      refine tC (lChange_calls lIns1_fun (Lib.hid (InsC.keepC W2.heap.size (W2.heap.size+1) (w.heap.size+1) W1.heap.size w.heap.size x (lLen s h) i)) (Lib.hid (lIns1_calls W2.heap.size (W2.heap.size+1) (w.heap.size+1) W1.heap.size w.heap.size x (lLen s h) i)) rounds ⟨s,0⟩ _ _ _ u _ Hu.out ⟨hA,kt,o_kt⟩ ⟨kb,kx,kn,ki,o_kb,o_kx,o_kn,o_ki,by omega,by omega,by omega,by omega⟩) fun W3 O1 hT hf=> ?_
      refine tn4 hT.hA hT.blk hT.no hf hF ki o_ki kx o_kx kn o_kn kb o_kb ?_;clear hA hF kt c_kt o_kt ki o_ki kx o_kx kn o_kn kb o_kb c_ki c_kx c_kn c_kb hT hf;intro z_W3 hA hF kt c_kt o_kt ki c_ki o_ki kx c_kx o_kx kn c_kn o_kn kb c_kb o_kb
      refine ho hK ⟨vv c_ki v_ki,vv c_kx v_kx,vv c_kn v_kn,vo c_kt v_kt 0,vv c_kb v_kb,by omega,trivial⟩ fun hHeld=> ?_
      clear hK K
      refine rd 10 rfl fun K hK=> ?_
      go_simp
      try simp only [IntWalk.i64_left]
      refine tC (lTold_calls (t:=u.2) u.1 _ ⟨hA,kt,o_kt⟩) fun W4 O2 hT hf=> ?_
      refine tn4 hT.hA hT.blk hT.no hf hF ki o_ki kx o_kx kn o_kn kb o_kb ?_;clear hA hF kt c_kt o_kt ki o_ki kx o_kx kn o_kn kb o_kb c_ki c_kx c_kn c_kb hT hf;intro z_W4 hA hF kt c_kt o_kt ki c_ki o_ki kx c_kx o_kx kn c_kn o_kn kb c_kb o_kb
      refine ho hK ⟨vv c_ki v_ki,vv c_kx v_kx,vv c_kn v_kn,vo c_kt v_kt 0,vv c_kb v_kb,by omega,trivial⟩ fun hHeld=> ?_
      clear hK K
      refine ta 11 hHeld ?_
      refine ta 12 hHeld ?_
      refine rd 13 rfl fun K hK=> ?_
      go_simp
      refine ho hK hHeld fun hHeld=> ?_
      clear hK K
      refine rd 14 rfl fun K hK=> ?_
      go_simp
      refine ho hK hHeld fun hHeld=> ?_
      clear hK K
      refine wd ?_
      go_wp2_with fail
      go_ret2
      refine ⟨rfl,O2,?_,hF⟩
      rw [told_s];exact hA
  · have d1:(lMay x i (lLen s h) !=0)=true:=by simp [h1]
    rw [if_neg h1] at hr
    obtain rfl:=Option.some.inj hr
    clear hr h1
    go_enter Tryz.func79,Tryz.ntmps79
    go_wp2_with fail
    refine cg fun V hV_V=> ?_
    have hF:=Fr.refl (noX) O w
    refine nnf0 hV_V hA hF ?_;clear hA hF;intro hn_V z_V hA hF
    obtain ⟨ki,c_ki,o_ki,l_kiV⟩:=nN hn_V hV_V (w.heap.size)
    obtain ⟨kx,c_kx,o_kx,l_kxV⟩:=nN hn_V hV_V (w.heap.size+1)
    clear hV_V hn_V
    refine rC (lLen_calls _ _ hA) fun W1 hb_W1=> ?_
    refine bef2 hb_W1 hA hF ki kx ?_;clear hb_W1 hA hF ki kx c_ki c_kx;intro z_W1 hA hF ki c_ki kx c_kx
    go_wp2_with fail
    refine cg fun V1 hV_V1=> ?_
    refine nnf2 hV_V1 hA hF ki kx ?_;clear hA hF ki kx c_ki c_kx;intro hn_V1 z_V1 hA hF ki c_ki kx c_kx
    obtain ⟨kn,c_kn,o_kn,l_knV1⟩:=nN hn_V1 hV_V1 (W1.heap.size)
    clear hV_V1 hn_V1
    refine rC (lMay_calls x i (lLen s h) _) fun W2 hb_W2=> ?_
    refine bef3 hb_W2 hA hF ki kx kn ?_;clear hb_W2 hA hF ki kx kn c_ki c_kx c_kn;intro z_W2 hA hF ki c_ki kx c_kx kn c_kn
    go_wp2_with fail
    go_ret2
    exact ⟨rfl,O,hA,hF⟩
end
end Go.Proofs.YtmlmnmkhigjaaaaGreat

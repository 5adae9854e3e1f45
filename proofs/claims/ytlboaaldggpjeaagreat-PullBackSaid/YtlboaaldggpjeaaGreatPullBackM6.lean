/- Part 6 of what PullBack needs: the walks of the program's functions, and plain facts. -/
import Derived.Test.YtlboaaldggpjeaaGreatPullBackM5
import Derived.Laws.IdiomStrings
import Derived.Laws.ComplexArith
import Derived.Deep.Onto
import Derived.Shelf.SlSortCmp.NoneTotal
import Derived.Shelf.SlicesQ.Equal
import Derived.Shelf.SlicesE.Equal
import Derived.Shelf.SlicesE.IndexFunc
import Derived.Shelf.SlicesE.DeleteFunc
import Derived.Shelf.Sort.Plain
import Derived.Test.YtlboaaldggpjeaaGreatProg
import Derived.Sort.OwnSortedInts
import Derived.Deep.Cut
import Derived.Sort.Grow
set_option linter.unusedSimpArgs false
set_option linter.unusedVariables false
set_option linter.unnecessarySimpa false
namespace Go.Proofs.YtlboaaldggpjeaaGreat
set_option maxRecDepth 100000
set_option maxHeartbeats 8000000
section
open Go.RowKit
attribute [local go_sem ↓] Go.wp_at_zero Go.wp_at_succ
attribute [local go_sem] lt_s2 lt_s3 lt_s4
attribute [local go_sem] idx0 idx1 idx2 idx3
variable {ap : Value} {s : Ar} {O : Nat → Prop}
theorem conv_bytes {w : World} {base cap : Nat} {A : Option Addr} {l : List UInt8} (h : w.ownsRow base 5 1 (.slice A l.length cap) l.length (byteCells l)) :
    (convert 32 9 (.slice A l.length cap)).run Tryz.prog w= .ok (strOf l) w:=by
  obtain ⟨-,A',cap',hv,h2⟩:=Rx.of_own h
  obtain ⟨rfl, -,rfl⟩:=Value.slice.inj hv
  cases A with
  | none=>
    have h0:l.length=0:=by
      rcases Nat.eq_zero_or_pos l.length with h0|h0
      · exact h0
      · obtain ⟨g,hg, -⟩:=h2 h0;cases hg
    obtain rfl:l=[]:=List.eq_nil_of_length_eq_zero h0
    rw [run_convert_bytes_string w 32 9 5 none _ _ Tryz.underlying32 (by kernel_rfl) (by kernel_rfl)]
    rfl
  | some a=>
    exact run_convert_bytes_back w 32 9 5 a cap l Tryz.underlying32 (by kernel_rfl) (by kernel_rfl) (fun j hj=>by
      obtain ⟨g,hg, -,hc⟩:=h2 (by omega)
      obtain rfl:=Option.some.inj hg
      rw [show (⟨g,0,none⟩:Addr).add j=⟨g,j,none⟩ by unfold Addr.add;split<;>simp_all]
      exact (hc j (by omega)).trans (byteCells_at (List.getElem?_eq_getElem hj)))
theorem textL_le: ∀(k:Nat) (s:Ar) (root row:Int) (b r:List UInt8),textL k s root row b=some r→b.length≤40→r.length≤41
  | 0,s,root,row,b,r,h,hb=>by cases h
  | k+1,s,root,row,b,r,h,hb=>by
    unfold textL at h
    obtain ⟨x,hx,h⟩:=Option.bind_eq_some_iff.1 h
    obtain ⟨y,hy,h⟩:=Option.bind_eq_some_iff.1 h
    have h1:(if symOk x.1 then b++[symU x.1] else b).length≤41:=by
      split
      · rw [List.length_append];simp;omega
      · omega
    generalize (if symOk x.1 then b++[symU x.1] else b)=c at h h1
    by_cases hc:(y.2&&decide (c.length≤40))=true
    · rw [if_pos hc] at h
      simp only [Bool.and_eq_true,decide_eq_true_eq] at hc
      exact textL_le k s root y.1 c r h hc.2
    · rw [if_neg hc] at h;cases h;exact h1
theorem text_there (root id : Int) (p : Int) (b : List UInt8) (l : List (Int × Int)) (hl : lAll s (vOf s root).table = some l) (hll : l.length ≤ 50000) (hp : placeIn id l 0 = (p, true)) (hb : textL rounds s root p [] = some b) (w : World) (hA : AP w ap s O) :
    Calls Tryz.prog 25 #[ap, .int .i64 root, .int .i64 id] w fun e w'=>e= .returned (.tuple #[strOf b.reverse, .bool true])∧Below w.heap.size w w':=by
  have Hl:=Lib.hid hl;have Hp:=Lib.hid hp;have Hb:=Lib.hid hb;clear hl hp hb
  have hA0:=Lib.hid hA
  go_enter Tryz.func25,Tryz.ntmps25
  go_wp2_with fail
  refine cg fun V hV_V=> ?_
  have hB:=Below.refl w.heap.size w
  refine nea0 hV_V hA hB ?_;clear hA hB;intro z_V hA hB
  clear hV_V
  refine rC (vOf_calls _ _ hA) fun W1 hb_W1=> ?_
  refine bea0 hb_W1 hA hB ?_;clear hb_W1 hA hB;intro z_W1 hA hB
  unfold Parts.val
  go_wp2_with fail
  refine cg fun V1 hV_V1=> ?_
  refine nna0 hV_V1 hA hB ?_;clear hA hB;intro hn_V1 z_V1 hA hB
  obtain ⟨kp,c_kp,o_kp,l_kpV1⟩:=nN hn_V1 hV_V1 (W1.heap.size)
  clear hV_V1 hn_V1
  refine rC (tPlace_calls _ _ l Hl.out hll _ hA) fun W2 hb_W2=> ?_
  refine bea1 hb_W2 hA hB kp ?_;clear hb_W2 hA hB kp c_kp;intro z_W2 hA hB kp c_kp
  rw [Hp.out]
  go_wp2_with fail
  refine wg fun V2 hV_V2=> ?_
  refine nea1 hV_V2 hA hB kp ?_;clear hA hB kp c_kp;intro z_V2 hA hB kp c_kp
  clear hV_V2
  have HA2:=Lib.hid hA;have KP2:=Lib.hid kp;have HB2:=Lib.hid hB
  have hb2:=hB.size
  go_loopg [10,12,13] rounds (fun k q v m wr=> ∃(row:Int) (b1:List UInt8),q= .int .i64 row∧b1.length≤41∧Hid (wr.ownsRow V2.heap.size 5 1 v b1.length (byteCells b1))∧Hid (Below V2.heap.size V2 wr)∧((m= .bool true∧b1.length≤40∧Hid (textL k s root row b1=some b))∨(m= .bool false∧b1=b)))
  case atStart=>exact ⟨p,[],rfl,by simp,Lib.hid (own_nil _ _ _ _),Lib.hid (Below.refl _ _), .inl ⟨rfl,by simp,Hb⟩⟩
  case round=>
    clear kp c_kp hA hB
    obtain ⟨row,b1,rfl,hb1,Hown,HB0,⟨rfl,hb2',Ht⟩|⟨rfl,rfl⟩⟩:=hrel
    · have hA:=HA2.out.below HB0.out
      have ht:=Ht.out
      clear Ht
      cases gk with
      | zero=>exact absurd ht (by simp [textL])
      | succ k=>
        unfold textL at ht
        obtain ⟨x,hx,ht⟩:=Option.bind_eq_some_iff.1 ht
        obtain ⟨y,hy,ht⟩:=Option.bind_eq_some_iff.1 ht
        have Hx:=Lib.hid hx;have Hy:=Lib.hid hy;clear hx hy
        have hw0:=HB0.out.size
        have kp:=keep_blk HB0.out KP2.out
        have hB:=Below.refl wr.heap.size wr
        have c_kp:=f3 kp;have l_kpwr:=lt_of kp
        go_wp2_with fail
        refine cg fun V3 hV_V3=> ?_
        refine nea1 hV_V3 hA hB kp ?_;clear hA hB kp c_kp;intro z_V3 hA hB kp c_kp
        clear hV_V3
        refine rC (wGet_calls _ _ _ Hx.out _ hA) fun W3 hb_W3=> ?_
        refine bea1 hb_W3 hA hB kp ?_;clear hb_W3 hA hB kp c_kp;intro z_W3 hA hB kp c_kp
        cases hs:symOk x.1 with
        | true=>
          rw [hs,if_pos rfl] at ht
          go_wp2_with fail
          refine cg fun V4 hV_V4=> ?_
          refine nea1 hV_V4 hA hB kp ?_;clear hA hB kp c_kp;intro z_V4 hA hB kp c_kp
          clear hV_V4
          refine (symByte_calls _ _).mono ?_
          rintro e_q w_q ⟨rfl,rfl⟩
          rw [hs,if_pos rfl]
          have hown:=own_below Hown.out hB
          have HB4:=Lib.hid (below_step HB0.out hB)
          clear Hown hB
          go_wp2_with (at_builtin;refine wpList_push _ (by rfl) _ _ 32 (by rfl) (V2.heap.size) 5 (.int .u8 0) 1 1 Tryz.underlying32 (by kernel_rfl) (by rfl) (by omega) _ _ _ (by rfl) hown _ (by rfl) (by rfl) (by simp [Value.oneCell']) (by unfold maxLen;omega) (by omega) (by omega) ?_;intro g_W c_W W5 hown_W hlow_W hlt_W)
          have HB5:=Lib.hid (low_step HB4.out (Nat.le_refl _) hlow_W)
          have Hown5:Hid (W5.ownsRow V2.heap.size 5 1 (.slice (some ⟨g_W,0,none⟩) (b1.length+1) c_W) (b1.length+1) (byteCells (b1++[symU x.1]))):=Lib.hid (by unfold byteCells;rw [List.map_append];exact hown_W)
          clear hown_W hlow_W HB4 kp c_kp hA hown
          have hA:=HA2.out.below HB5.out
          have kp:=keep_blk HB5.out KP2.out
          have hB:=Below.refl W5.heap.size W5
          have c_kp:=f3 kp;have l_kpW5:=lt_of kp
          go_wp2_with fail
          refine cg fun V6 hV_V6=> ?_
          refine nea1 hV_V6 hA hB kp ?_;clear hA hB kp c_kp;intro z_V6 hA hB kp c_kp
          clear hV_V6
          refine rC (vNext_calls _ _ _ Hy.out _ hA) fun W6 hb_W6=> ?_
          refine bea1 hb_W6 hA hB kp ?_;clear hb_W6 hA hB kp c_kp;intro z_W6 hA hB kp c_kp
          have HB6:=Lib.hid (below_step HB5.out hB)
          have Hown6:=Lib.hid (own_below Hown5.out hB)
          cases hy2:y.2 with
          | false=>
            rw [hy2] at ht
            rw [Bool.false_and,if_neg (by decide)] at ht
            obtain rfl:=Option.some.inj ht
            clear ht
            go_wp2_with fail
            go_roundg k
            case measure=>omega
            case rel=>exact ⟨y.1,_,rfl,by simp;omega,by simpa using Hown6,HB6, .inr ⟨rfl,rfl⟩⟩
          | true=>
            rw [hy2,Bool.true_and] at ht
            by_cases hc:(b1++[symU x.1]).length≤40
            · rw [if_pos (by simpa using hc)] at ht
              have Ht:=Lib.hid ht;clear ht
              have d5:decide (((b1.length:Int)+1:Int)≤40)=true:=by simp at hc⊢;omega
              have Hc:=Lib.hid hc;clear hc
              go_wp2_with fail
              go_roundg k
              case measure=>omega
              case rel=>exact ⟨y.1,_,rfl,by simp;omega,by simpa using Hown6,HB6, .inl ⟨rfl,Hc.out,Ht⟩⟩
            · rw [if_neg (by simpa using hc)] at ht
              have d5:decide (((b1.length:Int)+1:Int)≤40)=false:=by simp at hc⊢;omega
              obtain rfl:=Option.some.inj ht
              clear ht hc
              go_wp2_with fail
              go_roundg k
              case measure=>omega
              case rel=>exact ⟨y.1,_,rfl,by simp;omega,by simpa using Hown6,HB6, .inr ⟨rfl,rfl⟩⟩
        | false=>
          rw [hs] at ht
          simp only [Bool.false_eq_true,↓reduceIte] at ht
          go_wp2_with fail
          refine cg fun V4 hV_V4=> ?_
          refine nea1 hV_V4 hA hB kp ?_;clear hA hB kp c_kp;intro z_V4 hA hB kp c_kp
          clear hV_V4
          refine (symByte_calls _ _).mono ?_
          rintro e_q w_q ⟨rfl,rfl⟩
          rw [hs]
          go_wp2_with fail
          refine cg fun V6 hV_V6=> ?_
          refine nea1 hV_V6 hA hB kp ?_;clear hA hB kp c_kp;intro z_V6 hA hB kp c_kp
          clear hV_V6
          refine rC (vNext_calls _ _ _ Hy.out _ hA) fun W6 hb_W6=> ?_
          refine bea1 hb_W6 hA hB kp ?_;clear hb_W6 hA hB kp c_kp;intro z_W6 hA hB kp c_kp
          have HB6:=Lib.hid (below_step HB0.out hB)
          have Hown6:=Lib.hid (own_below Hown.out hB)
          obtain ⟨-,A1,c1,rfl, -⟩:=Rx.of_own Hown6.out
          cases hy2:y.2 with
          | false=>
            rw [hy2] at ht
            rw [Bool.false_and,if_neg (by decide)] at ht
            obtain rfl:=Option.some.inj ht
            clear ht
            go_wp2_with fail
            go_roundg k
            case measure=>omega
            case rel=>exact ⟨y.1,_,rfl,by omega,Hown6,HB6, .inr ⟨rfl,rfl⟩⟩
          | true=>
            rw [hy2,Bool.true_and] at ht
            by_cases hc:(b1).length≤40
            · rw [if_pos (by simpa using hc)] at ht
              have Ht:=Lib.hid ht;clear ht
              have d5:decide (((b1.length:Int):Int)≤40)=true:=by simp at hc⊢;omega
              have Hc:=Lib.hid hc;clear hc
              go_wp2_with fail
              go_roundg k
              case measure=>omega
              case rel=>exact ⟨y.1,_,rfl,by omega,Hown6,HB6, .inl ⟨rfl,Hc.out,Ht⟩⟩
            · rw [if_neg (by simpa using hc)] at ht
              have d5:decide (((b1.length:Int):Int)≤40)=false:=by simp at hc⊢;omega
              obtain rfl:=Option.some.inj ht
              clear ht hc
              go_wp2_with fail
              go_roundg k
              case measure=>omega
              case rel=>exact ⟨y.1,_,rfl,by omega,Hown6,HB6, .inr ⟨rfl,rfl⟩⟩
    · obtain ⟨hx1,A1,c1,rfl,hx2⟩:=Rx.of_own Hown.out
      have hwr:=HB0.out.size
      have hA:=HA2.out.below HB0.out
      have hB:=Below.refl wr.heap.size wr
      go_wp2_with fail
      refine cg fun V7 hV_V7=> ?_
      refine nea0 hV_V7 hA hB ?_;clear hA hB;intro z_V7 hA hB
      clear hV_V7
      have hown:=own_below Hown.out hB
      have HB7:=Lib.hid (below_step HB0.out hB)
      have hsz7:=HB7.out.size
      clear hB
      refine (reverse_calls V2.heap.size _ b1 (by omega) _ hsz7 hown).mono ?_
      rintro e8 W8 ⟨rfl,hown8,hlow8,hsz8⟩
      have hown9:W8.ownsRow V2.heap.size 5 1 (.slice A1 b1.reverse.length c1) b1.reverse.length (byteCells b1.reverse):=by rw [List.length_reverse];exact hown8
      have hcv:=conv_bytes hown9
      rw [List.length_reverse] at hcv
      have Hfin:Hid (Below w.heap.size w W8):=Lib.hid (below_step HB2.out (low_step HB7.out (Nat.le_refl _) hlow8))
      clear hown9 hown8 hlow8 hsz8 hown
      go_wp2_with fail
      go_ret2
      exact ⟨rfl,Hfin.out⟩
theorem text_none (root id : Int) (p : Int) (l : List (Int × Int)) (hl : lAll s (vOf s root).table = some l) (hll : l.length ≤ 50000) (hp : placeIn id l 0 = (p, false)) (w : World) (hA : AP w ap s O) :
    Calls Tryz.prog 25 #[ap, .int .i64 root, .int .i64 id] w fun e w'=>e= .returned (.tuple #[strOf [], .bool false])∧Below w.heap.size w w':=by
  have Hl:=Lib.hid hl;have Hp:=Lib.hid hp;clear hl hp
  go_enter Tryz.func25,Tryz.ntmps25
  go_wp2_with fail
  refine cg fun V hV_V=> ?_
  have hB:=Below.refl w.heap.size w
  refine nea0 hV_V hA hB ?_;clear hA hB;intro z_V hA hB
  clear hV_V
  refine rC (vOf_calls _ _ hA) fun W1 hb_W1=> ?_
  refine bea0 hb_W1 hA hB ?_;clear hb_W1 hA hB;intro z_W1 hA hB
  unfold Parts.val
  go_wp2_with fail
  refine cg fun V1 hV_V1=> ?_
  refine nna0 hV_V1 hA hB ?_;clear hA hB;intro hn_V1 z_V1 hA hB
  obtain ⟨kp,c_kp,o_kp,l_kpV1⟩:=nN hn_V1 hV_V1 (W1.heap.size)
  clear hV_V1 hn_V1
  refine rC (tPlace_calls _ _ l Hl.out hll _ hA) fun W2 hb_W2=> ?_
  refine bea1 hb_W2 hA hB kp ?_;clear hb_W2 hA hB kp c_kp;intro z_W2 hA hB kp c_kp
  rw [Hp.out]
  go_wp2_with fail
  go_ret2
  exact ⟨rfl,hB⟩
theorem text_calls (root id : Int) (t : List UInt8 × Bool) (ht : pText s root id = some t) (hll : (lLen s (vOf s root).table) ≤ 50000) (w : World) (hA : AP w ap s O) :
    Calls Tryz.prog 25 #[ap, .int .i64 root, .int .i64 id] w fun e w'=>e= .returned (.tuple #[strOf t.1, .bool t.2])∧Below w.heap.size w w':=by
  unfold pText at ht
  obtain ⟨p,hp,ht⟩:=Option.bind_eq_some_iff.1 ht
  unfold tPlace at hp
  obtain ⟨l,hl,hp⟩:=Option.map_eq_some_iff.1 hp
  have hlen:l.length≤50000:=by
    have:=eachO_len _ _ _ hl
    omega
  obtain ⟨i,is⟩:=p
  cases is with
  | false=>
    rw [if_neg (by simp)] at ht
    obtain rfl:=Option.some.inj ht
    exact text_none root id i l hl hlen hp w hA
  | true=>
    rw [if_pos rfl] at ht
    obtain ⟨b,hb,rfl⟩:=Option.map_eq_some_iff.1 ht
    exact text_there root id i b l hl hlen hp hb w hA
theorem pText_le {root id:Int} {t:List UInt8×Bool} (ht:pText s root id=some t):t.1.length≤41:=by
  unfold pText at ht
  obtain ⟨p,hp,ht⟩:=Option.bind_eq_some_iff.1 ht
  split at ht
  · obtain ⟨b,hb,rfl⟩:=Option.map_eq_some_iff.1 ht
    have:=textL_le _ _ _ _ _ _ hb (by simp)
    simpa using this
  · cases ht;simp
end
section
open Go.RowKit
attribute [local go_sem ↓] Go.wp_at_zero Go.wp_at_succ
def pathCells (l:List (Int×Int)):List Value:=l.map fun z=> .complex .f64 (zb z.1) (zb z.2)
attribute [local go_sem] str_len
theorem cadd_step (z : Int × Int) (b : UInt8) (hz : -49 ≤ z.1 ∧ z.1 ≤ 49 ∧ -49 ≤ z.2 ∧ z.2 ≤ 49) (w : World) :
    (binOp BinOp.add 102 (.complex .f64 (zb z.1) (zb z.2)) (.complex .f64 (zb (stepOf b (0,0)).1) (zb (stepOf b (0,0)).2))).run Tryz.prog w= .ok (.complex .f64 (zb (stepOf b z).1) (zb (stepOf b z).2)) w:=by
  refine run_complex_sum w .add (.inl rfl) _ _ _ _ _ _ _ _ ?_
  have a1:=zb_add1 z.1 (by omega) (by omega);have a2:=zb_add1 z.2 (by omega) (by omega)
  have b1:=zb_addm z.1 (by omega) (by omega);have b2:=zb_addm z.2 (by omega) (by omega)
  have c1:=zb_add0 z.1 (by omega) (by omega);have c2:=zb_add0 z.2 (by omega) (by omega)
  rw [stepOf_add b z]
  rcases stepOf_small b with e|e|e|e
  · rw [e];simp [cSumBits,floatBits,a1,a2,c1,c2]
  · rw [e];simp [cSumBits,floatBits,a1,a2,c1,c2]
  · rw [e];rw [Int.sub_eq_add_neg] at b1;simp [cSumBits,floatBits,b1,c2]
  · rw [e];rw [Int.sub_eq_add_neg] at b2;simp [cSumBits,floatBits,b2,c1]
theorem nearTake (l:List UInt8) (hl:l.length≤48) (i:Nat): -48≤((l.take i).foldl (fun z b=>stepOf b z) (0,0)).1∧((l.take i).foldl (fun z b=>stepOf b z) (0,0)).1≤48∧ -48≤((l.take i).foldl (fun z b=>stepOf b z) (0,0)).2∧((l.take i).foldl (fun z b=>stepOf b z) (0,0)).2≤48:=
  walk_near (l.take i) (by rw [List.length_take];omega)
theorem wpath_calls (l:List UInt8) (hl:l.length≤48) (w:World):Calls Tryz.prog 162 #[strOf l] w fun e w'=> ∃v,e= .returned v∧w'.ownsRow w.heap.size 102 1 v (l.length+1) (pathCells (pathOf (0,0) l))∧Below w.heap.size w w':=by
  go_enter Tryz.func162,Tryz.ntmps162
  have h0:=World.ownsRow_lit (base:=w.heap.size) (e:=102) (size:=1) w #[.complex .f64 0 0] 1 (Nat.le_refl _) (by unfold maxLen;omega) rfl
  have h1:pathCells (pathOf (0,0) (l.take 0))=[.complex .f64 0 0]:=by simp [pathCells,pathOf,zb_zero]
  have hB:=below_box w (.cells #[.complex .f64 0 0] 102 (0,0))
  have H0:=Lib.hid h0;have HB:=Lib.hid hB;have H1:=Lib.hid h1;clear h0 hB h1
  go_wp2_with fail
  go_loopg [3,9] l.length (fun k v q wr=> ∃i:Nat,q= .int .i64 (i:Int)∧i+k=l.length∧Hid (wr.ownsRow w.heap.size 102 1 v (i+1) (pathCells (pathOf (0,0) (l.take i))))∧Hid (Below w.heap.size w wr))
  case atStart=>exact ⟨0,rfl,by omega,Lib.hid (by rw [H1.out];exact H0.out),HB⟩
  case round=>
    clear H0 HB H1
    obtain ⟨i,rfl,hk,Hown,HB0⟩:=hrel
    by_cases hlt:i<l.length
    · have d1:decide ((i:Int)<(l.length:Int))=true:=by simpa using hlt
      obtain ⟨k,rfl⟩: ∃k,gk=k+1:=⟨gk - 1,by omega⟩
      obtain ⟨b,hb⟩: ∃b,l[i]? =some b:=⟨l[i],by simp [hlt]⟩
      have hlen:(l.take i).length=i:=by rw [List.length_take];omega
      have hix:=str_index l i b hb
      have hstep:l.take (i+1)=l.take i++[b]:=by
        rw [List.take_succ_eq_append_getElem hlt];congr 2
        exact Option.some.inj ((List.getElem?_eq_getElem hlt).symm.trans hb)
      have hpath:Hid (pathOf (0,0) (l.take (i+1))=pathOf (0,0) (l.take i)++[stepOf b ((l.take i).foldl (fun z b=>stepOf b z) (0,0))]):=Lib.hid (by rw [hstep,pathOf_snoc])
      have hlast:=pathOf_last (0,0) (l.take i)
      rw [hlen] at hlast
      have hnear:=nearTake l hl i
      have hnear2:=nearTake l hl (i+1)
      rw [hstep,List.foldl_append] at hnear2
      simp only [List.foldl_cons,List.foldl_nil] at hnear2
      generalize hz:(l.take i).foldl (fun z b=>stepOf b z) (0,0)=z at hpath hlast hnear hnear2
      clear hz hstep hb
      have hadd:=cadd_step z b (by omega)
      rcases Hown.out.2 with ⟨-,h0⟩|⟨g,cap,cur,rfl,hg,hc, -, -, -, -⟩
      · omega
      have hci:cur[i]? =some (.complex .f64 (zb z.1) (zb z.2)):=by
        have h1:=Hown.out.cellAt i (by omega)
        rw [cells_of hc] at h1
        rw [h1]
        unfold pathCells
        rw [List.getElem?_map,hlast];rfl
      have kg:=hc;clear hc
      have n1:(i:Int)<(i:Int)+1:=by omega
      have n2: ¬(i:Int)<0:=by omega
      have hw0:=HB0.out.size
      have hB:=Below.refl wr.heap.size wr
      have c_kg:=f3 kg;have l_kgwr:=lt_of kg
      go_wp2_with fail
      refine wg fun V2 hV_V2=> ?_
      refine neb1 hV_V2 hB kg ?_;clear hB kg c_kg;intro z_V2 hB kg c_kg
      clear hV_V2
      refine dr (fun v=>Sm v V2 (g)∧(V2.heap.size≤v.heap.size)∧True) ⟨fun _=>rfl,Nat.le_refl _,trivial⟩ fun V2d hV_V2d hHeld=> ?_
      have v_kg:=c_kg.1
      refine neb1 hV_V2d hB kg ?_;clear hB kg c_kg;intro z_V2d hB kg c_kg
      clear hV_V2d
      refine ta 0 hHeld ?_
      refine ta 1 hHeld ?_
      refine ta 2 hHeld ?_
      refine ta 3 hHeld ?_
      refine ta 4 hHeld ?_
      refine ta 5 hHeld ?_
      refine ta 6 hHeld ?_
      refine take_call (i:=7) (f:= ?_) (args:= ?_) (v:= ?_) rfl (by kernel_rfl) (by kernel_rfl) (by kernel_rfl) (fun _ _ _ h=>h) (by rfl) hHeld ?_ (fun v hSv=> ?_) ?_
      rotate_left 3
      focus (intro v hSv;go_simp;constructor<;>with_reducible rfl)
      focus (obtain ⟨c0,zs,hAv⟩:=hSv;exact wstep_calls b v)
      try simp only [PT]
      refine ta 8 hHeld ?_
      refine rd 9 rfl fun K hK=> ?_
      go_simp
      refine ho hK hHeld fun hHeld=> ?_
      clear hK K
      refine wd ?_
      go_wp2_with fail
      refine cg fun V3 hV_V3=> ?_
      refine neb1 hV_V3 hB kg ?_;clear hB kg c_kg;intro z_V3 hB kg c_kg
      clear hV_V3
      refine (turn_z (stepOf b z).1 (stepOf b z).2 (by omega) (by omega) _).mono ?_
      rintro e_q w_q ⟨rfl,rfl⟩
      have hown:=own_below Hown.out hB
      have HB3:=Lib.hid (below_step HB0.out hB)
      have hsz3:=HB3.out.size
      clear Hown hB
      go_wp2_with (at_builtin;refine wpList_push _ (by rfl) _ _ 161 (by rfl) (w.heap.size) 102 (.complex .f64 0 0) 1 16 Tryz.underlying161 (by kernel_rfl) (by rfl) (by omega) _ _ _ (by rfl) hown _ (by rfl) (by rfl) (by simp [Value.oneCell']) (by unfold maxLen;omega) (by omega) (by omega) ?_;intro g_W c_W W5 hown_W hlow_W hlt_W)
      go_wp2_with fail
      go_roundg k
      case measure=>omega
      case rel=>exact ⟨i+1,by simp,by omega,Lib.hid (by rw [hpath.out];unfold pathCells at hown_W⊢;rw [List.map_append];exact hown_W),Lib.hid (low_step HB3.out (Nat.le_refl _) hlow_W)⟩
    · have d1:decide ((i:Int)<(l.length:Int))=false:=by simpa using hlt
      obtain rfl:i=l.length:=by omega
      have Hown':=Hown.out
      rw [List.take_length] at Hown'
      have HO:=Lib.hid Hown';clear Hown' Hown
      go_wp2_with fail
      go_ret
      exact ⟨u3,rfl,HO.out,HB0.out⟩
theorem wend_calls (l:List UInt8) (hl:l.length≤48) (w:World):Calls Tryz.prog 128 #[strOf l] w fun e w'=>e= .returned (.complex .f64 (zb (walkOf l).1) (zb (walkOf l).2))∧Below w.heap.size w w':=by
  go_enter Tryz.func128,Tryz.ntmps128
  go_wp2_with fail
  refine cg fun V hV_V=> ?_
  have hB:=Below.refl w.heap.size w
  refine neb0 hV_V hB ?_;clear hB;intro z_V hB
  clear hV_V
  refine (wpath_calls l hl _).mono ?_
  rintro e1 W1 ⟨v,rfl,hown,hb1⟩
  have hB1:=Lib.hid (below_step hB hb1)
  rcases hown.2 with ⟨-,h0⟩|⟨g,cap,cur,rfl,hg,hc, -, -, -, -⟩
  · omega
  have hci:W1.cell? ⟨g,l.length,none⟩=some (.complex .f64 (zb (walkOf l).1) (zb (walkOf l).2)):=by
    have h1:=hown.cellAt l.length (by omega)
    rw [h1]
    unfold pathCells walkOf
    rw [List.getElem?_map,pathOf_last];rfl
  have n1:(l.length:Int)<(l.length:Int)+1:=by omega
  clear hown hc hb1 hB
  go_wp2_with fail
  go_ret
  exact ⟨rfl,hB1.out⟩
end
section
open Go.RowKit
attribute [local go_sem ↓] Go.wp_at_zero Go.wp_at_succ
attribute [local go_sem] lt_s2 lt_s3 lt_s4
attribute [local go_sem] str_len
variable {ap : Value} {s : Ar} {O : Nat → Prop}
theorem str_slice (l : List UInt8) (a b : Int) (h0 : 0 ≤ a) (h1 : a ≤ b) (h2 : b ≤ l.length) (w : World) :
    (Instr.slice 9 (strOf l) (some (.int .i64 a)) (some (.int .i64 b)) none).run Tryz.prog w= .ok (strOf ((l.take b.toNat).drop a.toNat)) w:=by
  unfold strOf
  have h3:(⟨l.toArray⟩:ByteArray).size=l.length:=by simp [ByteArray.size]
  rw [run_slice_string w 9 ⟨l.toArray⟩ .i64 .i64 a b (by kernel_rfl) h0 h1 (by rw [h3];exact h2)]
  rw [ByteArray.extract_mk,List.drop_take]
theorem part_calls (root id a b : Int) (t : List UInt8 × Bool) (ht : pText s root id = some t) (hll : (lLen s (vOf s root).table) ≤ 50000) (w : World) (hA : AP w ap s O) :
    Calls Tryz.prog 26 #[ap, .int .i64 root, .int .i64 id, .int .i64 a, .int .i64 b] w fun e w'=>e= .returned (.tuple #[strOf (partOf t a b).1, .int .i64 (partOf t a b).2])∧Below w.heap.size w w':=by
  have Ht:=Lib.hid ht;clear ht
  unfold partOf
  cases h1:t.2 with
  | false=>
    rw [if_pos rfl]
    go_enter Tryz.func26,Tryz.ntmps26
    go_wp2_with fail
    refine cg fun V hV_V=> ?_
    have hB:=Below.refl w.heap.size w
    refine nea0 hV_V hA hB ?_;clear hA hB;intro z_V hA hB
    clear hV_V
    refine rC (text_calls _ _ _ Ht.out hll _ hA) fun W1 hb_W1=> ?_
    refine bea0 hb_W1 hA hB ?_;clear hb_W1 hA hB;intro z_W1 hA hB
    rw [h1]
    go_wp2_with fail
    go_ret2
    exact ⟨rfl,hB⟩
  | true=>
    rw [if_neg (by decide)]
    by_cases c1:a<0
    · rw [if_pos (.inl c1)]
      have d1:decide (a<0)=true:=by simpa using c1
      clear c1
      go_enter Tryz.func26,Tryz.ntmps26
      go_wp2_with fail
      refine cg fun V hV_V=> ?_
      have hB:=Below.refl w.heap.size w
      refine nea0 hV_V hA hB ?_;clear hA hB;intro z_V hA hB
      clear hV_V
      refine rC (text_calls _ _ _ Ht.out hll _ hA) fun W1 hb_W1=> ?_
      refine bea0 hb_W1 hA hB ?_;clear hb_W1 hA hB;intro z_W1 hA hB
      rw [h1]
      go_wp2_with fail
      go_ret2
      exact ⟨rfl,hB⟩
    · have d1:decide (a<0)=false:=by simpa using c1
      by_cases c2:b<a
      · rw [if_pos (.inr (.inl c2))]
        have d2:decide (b<a)=true:=by simpa using c2
        clear c1 c2
        go_enter Tryz.func26,Tryz.ntmps26
        go_wp2_with fail
        refine cg fun V hV_V=> ?_
        have hB:=Below.refl w.heap.size w
        refine nea0 hV_V hA hB ?_;clear hA hB;intro z_V hA hB
        clear hV_V
        refine rC (text_calls _ _ _ Ht.out hll _ hA) fun W1 hb_W1=> ?_
        refine bea0 hb_W1 hA hB ?_;clear hb_W1 hA hB;intro z_W1 hA hB
        rw [h1]
        go_wp2_with fail
        go_ret2
        exact ⟨rfl,hB⟩
      · have d2:decide (b<a)=false:=by simpa using c2
        by_cases c3:(t.1.length:Int)<b
        · rw [if_pos (.inr (.inr c3))]
          have d3:decide ((t.1.length:Int)<b)=true:=by simpa using c3
          clear c1 c2 c3
          go_enter Tryz.func26,Tryz.ntmps26
          go_wp2_with fail
          refine cg fun V hV_V=> ?_
          have hB:=Below.refl w.heap.size w
          refine nea0 hV_V hA hB ?_;clear hA hB;intro z_V hA hB
          clear hV_V
          refine rC (text_calls _ _ _ Ht.out hll _ hA) fun W1 hb_W1=> ?_
          refine bea0 hb_W1 hA hB ?_;clear hb_W1 hA hB;intro z_W1 hA hB
          rw [h1]
          go_wp2_with fail
          go_ret2
          exact ⟨rfl,hB⟩
        · rw [if_neg (by omega)]
          have d3:decide ((t.1.length:Int)<b)=false:=by simpa using c3
          have hs:=str_slice t.1 a b (by omega) (by omega) (by omega)
          clear c1 c2 c3
          go_enter Tryz.func26,Tryz.ntmps26
          go_wp2_with fail
          refine cg fun V hV_V=> ?_
          have hB:=Below.refl w.heap.size w
          refine nea0 hV_V hA hB ?_;clear hA hB;intro z_V hA hB
          clear hV_V
          refine rC (text_calls _ _ _ Ht.out hll _ hA) fun W1 hb_W1=> ?_
          refine bea0 hb_W1 hA hB ?_;clear hb_W1 hA hB;intro z_W1 hA hB
          rw [h1]
          go_wp2_with fail
          go_ret2
          exact ⟨rfl,hB⟩
def plotOf (p:List UInt8×Int):Value:=if p.2=0 then .complex .f64 (zb (walkOf p.1).1) (zb (walkOf p.1).2) else .complex .f64 0 0
theorem partOf_le {t:List UInt8×Bool} {a b:Int} (h:t.1.length≤41):(partOf t a b).1.length≤41:=by
  unfold partOf
  split
  · simp
  · split
    · simp
    · simp;omega
theorem plot_calls (root id b : Int) (t : List UInt8 × Bool) (ht : pText s root id = some t) (hll : (lLen s (vOf s root).table) ≤ 50000) (w : World) (hA : AP w ap s O) :
    Calls Tryz.prog 72 #[ap, .int .i64 root, .int .i64 id, .int .i64 b] w fun e w'=>e= .returned (.tuple #[plotOf (partOf t 0 b), .int .i64 (partOf t 0 b).2])∧Below w.heap.size w w':=by
  have hle:=partOf_le (a:=0) (b:=b) (pText_le ht)
  have Ht:=Lib.hid ht;clear ht
  unfold plotOf
  by_cases h1:(partOf t 0 b).2=0
  · rw [if_pos h1]
    have d1:((partOf t 0 b).2 !=0)=false:=by simp [h1]
    have H1:=Lib.hid h1;clear h1
    go_enter Tryz.func72,Tryz.ntmps72
    go_wp2_with fail
    refine cg fun V hV_V=> ?_
    have hB:=Below.refl w.heap.size w
    refine nea0 hV_V hA hB ?_;clear hA hB;intro z_V hA hB
    clear hV_V
    refine rC (part_calls _ _ _ _ _ Ht.out hll _ hA) fun W1 hb_W1=> ?_
    refine bea0 hb_W1 hA hB ?_;clear hb_W1 hA hB;intro z_W1 hA hB
    go_wp2_with fail
    refine cg fun V1 hV_V1=> ?_
    refine nea0 hV_V1 hA hB ?_;clear hA hB;intro z_V1 hA hB
    clear hV_V1
    refine rC (wend_calls _ (by omega) _) fun W2 hb_W2=> ?_
    refine bea0 hb_W2 hA hB ?_;clear hb_W2 hA hB;intro z_W2 hA hB
    go_wp2_with fail
    go_ret2
    exact ⟨by rw [H1.out];rfl,hB⟩
  · rw [if_neg h1]
    have d1:((partOf t 0 b).2 !=0)=true:=by simp [h1]
    clear h1
    go_enter Tryz.func72,Tryz.ntmps72
    go_wp2_with fail
    refine cg fun V hV_V=> ?_
    have hB:=Below.refl w.heap.size w
    refine nea0 hV_V hA hB ?_;clear hA hB;intro z_V hA hB
    clear hV_V
    refine rC (part_calls _ _ _ _ _ Ht.out hll _ hA) fun W1 hb_W1=> ?_
    refine bea0 hb_W1 hA hB ?_;clear hb_W1 hA hB;intro z_W1 hA hB
    go_wp2_with fail
    go_ret2
    exact ⟨rfl,hB⟩
theorem pall_calls (root : Int) (l : List (Int × Int)) (hl : lAll s (vOf s root).table = some l) (hll : l.length ≤ 50000) (w : World) (hA : AP w ap s O) :
    Calls Tryz.prog 74 #[ap, .int .i64 root] w fun e w'=> ∃v,e= .returned v∧w'.ownsRow w.heap.size 90 2 v l.length (itemCells l)∧Below w.heap.size w w':=by
  have Hl:=Lib.hid hl;clear hl
  go_enter Tryz.func74,Tryz.ntmps74
  go_wp2_with fail
  refine cg fun V hV_V=> ?_
  have hB:=Below.refl w.heap.size w
  refine nea0 hV_V hA hB ?_;clear hA hB;intro z_V hA hB
  clear hV_V
  refine rC (vOf_calls _ _ hA) fun W1 hb_W1=> ?_
  refine bea0 hb_W1 hA hB ?_;clear hb_W1 hA hB;intro z_W1 hA hB
  unfold Parts.val
  go_wp2_with fail
  refine cg fun V1 hV_V1=> ?_
  refine nna0 hV_V1 hA hB ?_;clear hA hB;intro hn_V1 z_V1 hA hB
  obtain ⟨kp,c_kp,o_kp,l_kpV1⟩:=nN hn_V1 hV_V1 (W1.heap.size)
  clear hV_V1 hn_V1
  refine (lAll_calls _ l Hl.out hll _ hA).mono ?_
  rintro e2 W2 ⟨v,rfl,hown,hb2⟩
  have HB2:=Lib.hid (below_step hB hb2)
  have Hown:=Lib.hid (own_mono (base':=w.heap.size) hown hB.size)
  obtain ⟨-,A,cap,rfl, -⟩:=Rx.of_own hown
  clear hown hb2 hB
  go_wp2_with fail
  go_ret
  exact ⟨_,rfl,Hown.out,HB2.out⟩
end
section
open Go.RowKit
attribute [local go_sem ↓] Go.wp_at_zero Go.wp_at_succ
attribute [local go_sem] str_len
variable {ap : Value} {s : Ar} {O : Nat → Prop}
theorem docs_calls (root : Int) (ds : Docs) (hl : lAll s (vOf s root).table = some (docsM ds)) (hll : ds.length ≤ 1000) (hT : ∀ d ∈ ds, pText s root d.1 = some (d.2, true)) (hL : lLen s (vOf s root).table ≤ 50000) (w : World) (hA : AP w ap s O) :
    Calls Tryz.prog 24 #[ap, .int .i64 root] w fun e w'=> ∃A cap,e= .returned (.slice A ds.length cap)∧w'.ownsRow w.heap.size 31 2 (.slice A ds.length cap) ds.length (docCells ds)∧Below w.heap.size w w':=by
  have Hl:=Lib.hid hl;have HT:=Lib.hid hT;have HL:=Lib.hid hL;have HLL:=Lib.hid hll
  have hdl:(docsM ds).length=ds.length:=by simp [docsM]
  have HDL:=Lib.hid hdl
  clear hl hT hL hdl
  go_enter Tryz.func24,Tryz.ntmps24
  go_wp2_with fail
  refine cg fun V hV_V=> ?_
  have hB:=Below.refl w.heap.size w
  refine nea0 hV_V hA hB ?_;clear hA hB;intro z_V hA hB
  clear hV_V
  refine (pall_calls _ (docsM ds) Hl.out (by rw [HDL.out];have:=HLL.out;omega) _ hA).mono ?_
  rintro e_W1 W1 ⟨v,rfl,hown,hb_W1⟩
  refine bea0 hb_W1 hA hB ?_;clear hb_W1 hA hB;intro z_W1 hA hB
  rw [HDL.out] at hown
  have hrx:=Rx.of_own hown
  obtain ⟨hx1,A0,cap0,rfl,hx2⟩:=hrx
  have HX2:=Lib.hid hx2
  have HA1:=Lib.hid hA
  have HB:=Lib.hid hB;have hzB:=hB.size
  clear hown hx1 hx2 hB hA
  go_wp2_with fail
  go_loopg [5,7,8,9,14] ds.length (fun k p c7 c8 c9 q wr=> ∃i:Nat,q= .int .i64 (i:Int)∧i+k=ds.length∧Hid (wr.ownsRow W1.heap.size 31 2 p i (docCells (ds.take i)))∧Hid (Below W1.heap.size W1 wr))
  case atStart=>exact ⟨0,rfl,by omega,Lib.hid (own_nil _ _ _ _),Lib.hid (Below.refl _ _)⟩
  case round=>
    obtain ⟨i,rfl,hk,Hown,HB2⟩:=hrel
    by_cases hlt:i<ds.length
    · obtain ⟨k,rfl⟩: ∃k,gk=k+1:=⟨gk - 1,by omega⟩
      have n1:decide ((i:Int)<(ds.length:Int))=true:=by simpa using hlt
      have n2:(i:Int)<(ds.length:Int):=by omega
      obtain ⟨g,rfl,hg,hc⟩:=HX2.out (by omega)
      obtain ⟨d,hd⟩:=at_some hlt
      have hx:(docsM ds)[i]? =some (d.1,(d.2.length:Int)):=by unfold docsM;rw [List.getElem?_map,hd];rfl
      have c1:wr.cell? ⟨g,i*2,none⟩=some (.int .i64 d.1):=((HB2.out.cell (by exact hg)).trans (hc _ (by omega))).trans (itemCells_at (docsM ds) i _ hx).1
      have c2:wr.cell? ⟨g,i*2+1,none⟩=some (.int .i64 (d.2.length:Int)):=((HB2.out.cell (by exact hg)).trans (hc _ (by omega))).trans (itemCells_at (docsM ds) i _ hx).2
      have htx:=HT.out d (List.mem_of_getElem? hd)
      have HTX:=Lib.hid htx
      have e3:wrap64 ((i:Int)+1)=(i:Int)+1:=IntWalk.wrap64_in _ (by omega)
      have HE3:=Lib.hid e3
      have htake:Hid (docCells (ds.take (i+1))=docCells (ds.take i)++[.int .i64 d.1, .string ⟨d.2.toArray⟩]):=Lib.hid (by
        rw [List.take_succ_eq_append_getElem hlt,docCells_append,(List.getElem_eq_iff hlt).2 hd];rfl)
      have hA:=HA1.out.below HB2.out
      have hw0:=HB2.out.size
      clear hc hx hd htx e3
      have hB:=Below.refl wr.heap.size wr
      go_wp2_with fail
      refine cg fun V2 hV_V2=> ?_
      refine nna0 hV_V2 hA hB ?_;clear hA hB;intro hn_V2 z_V2 hA hB
      obtain ⟨kx,c_kx,o_kx,l_kxV2⟩:=nN hn_V2 hV_V2 (wr.heap.size)
      clear hV_V2 hn_V2
      refine rC (text_calls root d.1 (d.2,true) HTX.out HL.out _ hA) fun W2 hb_W2=> ?_
      refine bea1 hb_W2 hA hB kx ?_;clear hb_W2 hA hB kx c_kx;intro z_W2 hA hB kx c_kx
      dsimp only
      unfold strOf
      have hown:=own_below Hown.out hB
      have HB3:=Lib.hid (below_step HB2.out hB)
      clear Hown c1 c2
      go_wp2_with (at_builtin;refine wpList_push _ (by rfl) _ _ 22 (by rfl) (W1.heap.size) 31 (.agg #[.int .i64 0, .string ⟨#[]⟩]) 2 24 Tryz.underlying22 (by kernel_rfl) (by rfl) (by omega) _ _ _ (by rfl) hown _ (by rfl) (by rfl) (by simp [Value.oneCell']) (by unfold maxLen;omega) (by omega) (by omega) ?_;intro g_W c_W W3 hown_W hlow_W hlt_W)
      have e3:=HE3.out
      go_wp2_with fail
      go_roundg k
      case measure=>omega
      case rel=>exact ⟨i+1,by first|rfl|(rw [e3];rfl),by omega,Lib.hid (by rw [htake.out];exact hown_W),Lib.hid (low_step HB3.out (Nat.le_refl _) hlow_W)⟩
    · have hi:i=ds.length:=by omega
      have n1:decide ((i:Int)<(ds.length:Int))=false:=by simpa using hlt
      have hown:=Hown.out
      rw [hi,List.take_length] at hown
      have HO:=Lib.hid (World.ownsRow.mono hown (Nat.le_trans HB.out.size (Nat.le_refl _)))
      clear hown Hown
      obtain ⟨A5,c5,hv5⟩: ∃A5 c5,u5= .slice A5 ds.length c5:=by
        obtain ⟨-,A',cap',hv, -⟩:=Rx.of_own HO.out
        exact ⟨A',cap',hv⟩
      subst hv5
      go_wp2_with fail
      go_ret
      exact ⟨_,_,rfl,HO.out,below_step HB.out HB2.out⟩
end
end Go.Proofs.YtlboaaldggpjeaaGreat
namespace Go.Proofs
open Go.Shelf
def Tryz.laySort_ren:Go.Shelf.Ren:=⟨fun|6=>120|15=>134|14=>158|28=>172|29=>173|20=>187|21=>188|22=>189|23=>190|24=>191|25=>192|26=>193|27=>194|46=>206|47=>198|48=>199|49=>207|50=>208|57=>213|n=>n,fun|22=>80|24=>86|25=>154|3=>3|39=>168|0=>0|53=>195|55=>112|4=>4|46=>189|45=>188|50=>28|5=>5|9=>9|66=>209|70=>135|76=>218|77=>181|n=>n,fun|n=>n⟩
def Tryz.layEqItem_ren:Go.Shelf.Ren:=⟨fun|8=>65|n=>n,fun|22=>92|24=>90|4=>4|3=>3|0=>0|n=>n,fun|n=>n⟩
def Tryz.layEqInt_ren:Go.Shelf.Ren:=⟨fun|33=>67|n=>n,fun|22=>44|23=>3|4=>4|3=>3|0=>0|n=>n,fun|n=>n⟩
def Tryz.layEqBool_ren:Go.Shelf.Ren:=⟨fun|33=>70|n=>n,fun|22=>77|23=>4|4=>4|3=>3|0=>0|n=>n,fun|n=>n⟩
def Tryz.layHasStr_ren:Go.Shelf.Ren:=⟨fun|8=>123|6=>160|n=>n,fun|22=>46|23=>9|25=>123|4=>4|3=>3|0=>0|n=>n,fun|n=>n⟩
def Tryz.layDelInt_ren:Go.Shelf.Ren:=⟨fun|10=>95|6=>138|n=>n,fun|22=>44|23=>3|25=>128|3=>3|4=>4|0=>0|n=>n,fun|n=>n⟩
theorem Tryz.layDelInt:Go.Proofs.SlLaysH.n10 Tryz.prog Tryz.layDelInt_ren:={
  mixed:=by kernel_rfl
  f6:=⟨Tryz.f138.name,by decide,Tryz.func138.trans (congrArg some (by kernel_rfl))⟩
  f10:=⟨Tryz.f95.name,by decide,Tryz.func95.trans (congrArg some (by kernel_rfl))⟩
  t0:=Tryz.underlying0
  a0:=Tryz.isAgg0
  z0:=Tryz.sizeOf0
  v0:=Tryz.zeroValue0
  t3:=Tryz.underlying3
  a3:=Tryz.isAgg3
  z3:=Tryz.sizeOf3
  v3:=Tryz.zeroValue3
  t4:=Tryz.underlying4
  a4:=Tryz.isAgg4
  z4:=Tryz.sizeOf4
  v4:=Tryz.zeroValue4
  t22:=Tryz.underlying44
  a22:=Tryz.isAgg44
  z22:=Tryz.sizeOf44
  v22:=Tryz.zeroValue44
  a23:=Tryz.isAgg3
  z23:=Tryz.sizeOf3
  t25:=Tryz.underlying128
  a25:=Tryz.isAgg128
  z25:=Tryz.sizeOf128
  v25:=Tryz.zeroValue128}
def Tryz.laySortInt_ren:Go.Shelf.Ren:=⟨fun|189=>80|125=>134|257=>133|128=>172|129=>173|294=>163|295=>164|296=>165|297=>166|298=>167|299=>168|216=>169|300=>170|301=>171|328=>197|329=>198|330=>199|331=>200|332=>201|215=>202|343=>210|n=>n,fun|28=>44|3=>3|46=>168|0=>0|51=>195|53=>112|4=>4|183=>189|182=>188|131=>28|5=>5|9=>9|218=>209|222=>135|228=>218|229=>181|n=>n,fun|n=>n⟩
theorem Tryz.laySortInt:Go.Proofs.Lays.n189 Tryz.prog Tryz.laySortInt_ren:={
  mixed:=by kernel_rfl
  f125:=Tryz.func134.trans (congrArg some (by kernel_rfl))
  f128:=Tryz.func172.trans (congrArg some (by kernel_rfl))
  f129:=Tryz.func173.trans (congrArg some (by kernel_rfl))
  f189:=Tryz.func80.trans (congrArg some (by kernel_rfl))
  f215:=Tryz.func202.trans (congrArg some (by kernel_rfl))
  f216:=Tryz.func169.trans (congrArg some (by kernel_rfl))
  f257:=Tryz.func133.trans (congrArg some (by kernel_rfl))
  f294:=Tryz.func163.trans (congrArg some (by kernel_rfl))
  f295:=Tryz.func164.trans (congrArg some (by kernel_rfl))
  f296:=Tryz.func165.trans (congrArg some (by kernel_rfl))
  f297:=Tryz.func166.trans (congrArg some (by kernel_rfl))
  f298:=Tryz.func167.trans (congrArg some (by kernel_rfl))
  f299:=Tryz.func168.trans (congrArg some (by kernel_rfl))
  f300:=Tryz.func170.trans (congrArg some (by kernel_rfl))
  f301:=Tryz.func171.trans (congrArg some (by kernel_rfl))
  f328:=Tryz.func197.trans (congrArg some (by kernel_rfl))
  f329:=Tryz.func198.trans (congrArg some (by kernel_rfl))
  f330:=Tryz.func199.trans (congrArg some (by kernel_rfl))
  f331:=Tryz.func200.trans (congrArg some (by kernel_rfl))
  f332:=Tryz.func201.trans (congrArg some (by kernel_rfl))
  f343:=Tryz.func210.trans (congrArg some (by kernel_rfl))
  t0:=Tryz.underlying0
  a0:=Tryz.isAgg0
  z0:=Tryz.sizeOf0
  v0:=Tryz.zeroValue0
  t3:=Tryz.underlying3
  a3:=Tryz.isAgg3
  z3:=Tryz.sizeOf3
  v3:=Tryz.zeroValue3
  t4:=Tryz.underlying4
  a4:=Tryz.isAgg4
  z4:=Tryz.sizeOf4
  v4:=Tryz.zeroValue4
  t5:=Tryz.underlying5
  a5:=Tryz.isAgg5
  z5:=Tryz.sizeOf5
  v5:=Tryz.zeroValue5
  t9:=Tryz.underlying9
  a9:=Tryz.isAgg9
  z9:=Tryz.sizeOf9
  v9:=Tryz.zeroValue9
  t28:=Tryz.underlying44
  a28:=Tryz.isAgg44
  z28:=Tryz.sizeOf44
  v28:=Tryz.zeroValue44
  t46:=Tryz.underlying168
  a46:=Tryz.isAgg168
  z46:=Tryz.sizeOf168
  v46:=Tryz.zeroValue168
  t51:=Tryz.underlying195
  a51:=Tryz.isAgg195
  z51:=Tryz.sizeOf195
  v51:=Tryz.zeroValue195
  t53:=Tryz.underlying112
  a53:=Tryz.isAgg112
  z53:=Tryz.sizeOf112
  v53:=Tryz.zeroValue112
  t131:=Tryz.underlying28
  a131:=Tryz.isAgg28
  z131:=Tryz.sizeOf28
  v131:=Tryz.zeroValue28
  t182:=Tryz.underlying188
  a182:=Tryz.isAgg188
  z182:=Tryz.sizeOf188
  v182:=Tryz.zeroValue188
  t183:=Tryz.underlying189
  a183:=Tryz.isAgg189
  z183:=Tryz.sizeOf189
  v183:=Tryz.zeroValue189
  t218:=Tryz.underlying209
  a218:=Tryz.isAgg209
  z218:=Tryz.sizeOf209
  v218:=Tryz.zeroValue209
  t222:=Tryz.underlying135
  a222:=Tryz.isAgg135
  z222:=Tryz.sizeOf135
  v222:=Tryz.zeroValue135
  t228:=Tryz.underlying218
  a228:=Tryz.isAgg218
  z228:=Tryz.sizeOf218
  v228:=Tryz.zeroValue218
  t229:=Tryz.underlying181
  a229:=Tryz.isAgg181
  z229:=Tryz.sizeOf181
  v229:=Tryz.zeroValue181}
end Go.Proofs
namespace Go.Proofs.YtlboaaldggpjeaaGreat
set_option maxRecDepth 100000
set_option maxHeartbeats 8000000
section
open Go.RowKit
structure Pt where
  s:Ar
  src:Int
  rate:Int
  id:Int
  text:List UInt8
  p:Parts
  pos:Int
  row:Int
  begun:Bool
  over:Bool
  root:Int
def insI (x:Int):List Int→List Int
  | []=>[x]
  | y::l=>if x≤y then x::y::l else y::insI x l
def sortI:List Int→List Int
  | []=>[]
  | x::l=>insI x (sortI l)
def Pt.held (x:Pt):List Int:=if x.over then [] else (sortI [x.src,x.p.wave,x.p.marks,x.p.spots,x.p.table]).filter fun h=> !decide (h=0)
def Pt.stop (x:Pt):Pt:={x with s:=x.s.dropAll x.held,over:=true,p:=Parts.zero}
def Pt.left (x:Pt):Int:=if x.over then 0 else if x.begun then wrap64 (x.pos+2) else wrap64 ((x.text.length:Int)+3)
def Parts.at (p:Parts):Nat→Int
  | 0=>p.wave
  | 1=>p.marks
  | 2=>p.spots
  | _=>p.table
def Parts.put (p:Parts) (i:Nat) (h:Int):Parts:=
  match i with
  | 0=>{p with wave:=h}
  | 1=>{p with marks:=h}
  | 2=>{p with spots:=h}
  | _=>{p with table:=h}
def Pt.swap (x:Pt) (i:Nat) (r:Int×Int×Ar):Int×Pt:=
  if r.2.1=0 then (0,{x with s:=r.2.2.drop (x.p.at i),p:=x.p.put i r.1}) else (r.2.1,{x with s:=r.2.2})
def keepP (s:Ar) (q:Parts):Ar:=(((s.keep q.wave).keep q.marks).keep q.spots).keep q.table
def Pt.start (x:Pt):Pt:={x with s:=keepP x.s (vOf x.s x.src),p:=vOf x.s x.src,begun:=true,row:=lLen (keepP x.s (vOf x.s x.src)) (vOf x.s x.src).table}
def Pt.begin (x:Pt):Option (Int×Pt):=
  (lAll x.start.s x.start.p.table).bind fun a=>if a.length≤50000 then (tAdd x.start.s x.start.p.table x.id x.text.length).map fun r=>x.start.swap 3 r else none
def Pt.sym (x:Pt):Int:=if 0<x.pos then ((x.text.getD (x.pos - 1).toNat 0).toNat:Int)+1 else 0
def Pt.mark (x:Pt) (next:Int) (one:Bool):Option (Int×Pt):=
  (bInsert x.s x.p.marks x.row one).map fun r=>({x with s:=r.2.2,row:=next,pos:=wrap64 (x.pos - 1)}:Pt).swap 1 (r.1,r.2.1,r.2.2)
def Pt.insert (x:Pt):Option (Int×Pt):=
  (wBefore x.s x.p.wave x.sym).bind fun b=>(wRank x.s x.p.wave x.sym x.row).bind fun k=>
  (wInsert x.s x.p.wave x.row x.sym).bind fun r1=>
  if (x.swap 0 r1).1=0 then
    (if x.pos % x.rate=0 then
      (bRank (x.swap 0 r1).2.s (x.swap 0 r1).2.p.marks x.row).bind fun j=>(lInsert (x.swap 0 r1).2.s (x.swap 0 r1).2.p.spots j (x.id,x.pos)).bind fun r2=>
      if ((x.swap 0 r1).2.swap 2 r2).1=0 then ((x.swap 0 r1).2.swap 2 r2).2.mark (wrap64 (wrap64 (b+1)+k)) true
      else some ((x.swap 0 r1).2.swap 2 r2)
     else (x.swap 0 r1).2.mark (wrap64 (wrap64 (b+1)+k)) false)
  else some (x.swap 0 r1)
def Pt.asked (r:Int×Pt):Bool×Int×Pt:=if r.1=0 then (r.2.over,0,r.2) else (r.2.stop.over,r.1,r.2.stop)
def Pt.step (x:Pt):Option (Bool×Int×Pt):=
  if x.over then some (true,10,x)
  else if x.begun then
    (if 0≤x.pos then x.insert.map Pt.asked
     else some (true,(vMake x.s x.p).2.1,({x with s:=(vMake x.s x.p).2.2,root:=(vMake x.s x.p).1}:Pt).stop))
  else x.begin.map Pt.asked
def Pt.new (s:Ar) (root rate id:Int) (text:List UInt8):Pt:=⟨s.keep root,root,rate,id,text,Parts.zero,text.length,0,false,false,0⟩
end
section
open Go.RowKit Go.Sort
theorem insI_perm (x:Int): ∀l:List Int,(insI x l).Perm (x::l)
  | []=>List.Perm.refl _
  | y::l=>by
    unfold insI
    split
    · exact List.Perm.refl _
    · exact ((insI_perm x l).cons y).trans (List.Perm.swap x y l)
theorem sortI_perm: ∀l:List Int,(sortI l).Perm l
  | []=>List.Perm.refl _
  | x::l=>(insI_perm x (sortI l)).trans ((sortI_perm l).cons x)
theorem insI_sorted (x:Int): ∀{l:List Int},l.Pairwise (· ≤ ·)→(insI x l).Pairwise (· ≤ ·)
  | [],_=>by simp [insI]
  | y::l,h=>by
    unfold insI
    rw [List.pairwise_cons] at h
    split
    · rename_i hxy
      refine List.pairwise_cons.2 ⟨fun z hz=> ?_,List.pairwise_cons.2 h⟩
      rcases List.mem_cons.1 hz with rfl|hz
      · exact hxy
      · have:=h.1 z hz;omega
    · rename_i hxy
      refine List.pairwise_cons.2 ⟨fun z hz=> ?_,insI_sorted x h.2⟩
      rcases List.mem_cons.1 ((insI_perm x l).mem_iff.1 hz) with rfl|hz
      · omega
      · exact h.1 z hz
theorem sortI_sorted: ∀l:List Int,(sortI l).Pairwise (· ≤ ·)
  | []=>List.Pairwise.nil
  | x::l=>insI_sorted x (sortI_sorted l)
theorem sorted_unique: ∀{A B:List Int},A.Pairwise (· ≤ ·)→B.Pairwise (· ≤ ·)→A.Perm B→A=B
  | [],B,_,_,h=>(List.Perm.eq_nil h.symm).symm
  | x::A,[],_,_,h=>List.Perm.eq_nil h
  | x::A,y::B,h1,h2,h=>by
    rw [List.pairwise_cons] at h1 h2
    have e:x=y:=by
      have hx:x∈y::B:=h.mem_iff.1 (by simp)
      have hy:y∈x::A:=h.mem_iff.2 (by simp)
      rcases List.mem_cons.1 hx with e|e
      · exact e
      · rcases List.mem_cons.1 hy with e'|e'
        · exact e'.symm
        · have:=h1.1 y e';have:=h2.1 x e;omega
    subst e
    rw [sorted_unique h1.2 h2.2 (List.perm_cons x|>.1 h)]
theorem merge_sortI (l:List Int):(l.mergeSort fun x y=>decide (x≤y))=sortI l:=by
  refine sorted_unique ?_ (sortI_sorted l) ((List.mergeSort_perm l _).trans (sortI_perm l).symm)
  have:=List.pairwise_mergeSort (le:=fun x y:Int=>decide (x≤y)) (fun a b c h1 h2=>by simp at*;omega) (fun a b=>by simp;omega) l
  exact this.imp fun h=>by simpa using h
theorem grow_nil (w:World):Go.Sort.grow w #[]=w:=by cases w;simp [Go.Sort.grow]
def keepL (s:Ar) (l:List Int):Ar:=l.foldl Ar.keep s
theorem keep_take (s:Ar) (l:List Int) (i:Nat) (h:i<l.length):keepL s (l.take (i+1))=(keepL s (l.take i)).keep l[i]:=by
  unfold keepL
  rw [List.take_succ_eq_append_getElem h,List.foldl_append];rfl
theorem part_cell (q:Parts) (j:Nat) (h:j<[q.wave,q.marks,q.spots,q.table].length):(#[Value.int .i64 q.wave, .int .i64 q.marks, .int .i64 q.spots, .int .i64 q.table]:Array Value)[j]? =some (.int .i64 [q.wave,q.marks,q.spots,q.table][j]):=by
  have:[q.wave,q.marks,q.spots,q.table].length=4:=rfl
  rcases (show j=0∨j=1∨j=2∨j=3 by omega) with rfl|rfl|rfl|rfl<;>rfl
end
section
open Go.RowKit Go.Sort
attribute [local go_sem ↓] Go.wp_at_zero Go.wp_at_succ
attribute [local go_sem] lt_s2 lt_s3 lt_s4 str_len
structure PB (w:World) (pb:Nat) (ap:Value) (x:Pt) (O:Nat→Prop):Prop where
  hA:AP w ap x.s O
  blk:w.heap[pb]? =some (.cells #[ap, .int .i64 x.src, .int .i64 x.rate, .int .i64 x.id,strOf x.text, .int .i64 x.p.wave, .int .i64 x.p.marks, .int .i64 x.p.spots, .int .i64 x.p.table, .int .i64 x.pos, .int .i64 x.row, .bool x.begun, .bool x.over, .int .i64 x.root] 125 (0,0))
  no: ¬O pb
def DidP (pb:Nat) (ap:Value) (x':Pt) (O:Nat→Prop) (w w':World):Prop:= ∃O',PB w' pb ap x' O'∧Fr (oneX pb) O O' w w'
theorem didp_gen {tb:Nat} {ap:Value} {x':Pt} {O:Nat→Prop} {w w':World} (h: ∀v,v=w'→DidP tb ap x' O w v):DidP tb ap x' O w w':=h w' rfl
variable {ap : Value} {O : Nat → Prop} {tb : Nat} {x : Pt}
theorem pRoot_calls (w : World) (hT : PB w tb ap x O) :
    Calls Tryz.prog 42 #[.pointer (some ⟨tb,0,none⟩)] w fun e w'=>e= .returned (.int .i64 x.root)∧w=w':=by
  go_enter Tryz.func42,Tryz.ntmps42
  have kt:=hT.blk
  have c_kt:=f3 kt;have l_ktw:=lt_of kt
  go_wp2_with fail
  go_ret
  exact ⟨rfl,rfl⟩
theorem holds_ints {w:World} {g:Nat} {zs:List Int} {T:TypeId} (hk:w.heap[g]? =some (.cells (zs.map (Value.int .i64)).toArray T (0,0))):Go.Sort.Holds (Value.int .i64) w g 0 zs.toArray:=fun j hj=>by
  have hj':j<zs.length:=by simpa using hj
  rw [Nat.zero_add,cells_of hk,free_of hk]
  refine ⟨?_,rfl⟩
  simp [hj']
theorem put_cells {zs ts:List Int} (hl:ts.length=zs.length):(Go.Sort.putCells (Value.int .i64) 0 ts.toArray (zs.map (Value.int .i64)).toArray)=(ts.map (Value.int .i64)).toArray:=by
  apply Array.ext
  · simp [Go.Sort.putCells,hl]
  · intro i h1 h2
    have h3:i<ts.length:=by simpa using h2
    simp [Go.Sort.putCells,h3]
theorem sortInt_calls (g : Nat) (zs : List Int) (T : TypeId) (w : World) (hk : w.heap[g]? = some (.cells (zs.map (Value.int .i64)).toArray T (0, 0))) (hl : zs.length ≤ 100) :
    Calls Tryz.prog 80 #[.slice (some ⟨g,0,none⟩) zs.length zs.length] w fun e w'=>e= .returned (.tuple #[])∧w.grownBy w' (some g)∧w'.heap[g]? =some (.cells ((sortI zs).map (Value.int .i64)).toArray T (0,0)):=by
  have hcon:=Any.slices_Sort_int Tryz.laySortInt g 0 zs.length zs w (holds_ints hk) (lt_of hk) (by omega)
  refine Calls.mono hcon ?_
  rintro e w' ⟨rfl,n,os,rfl⟩
  rw [merge_sortI]
  refine ⟨rfl,grownBy_sortedI _,?_⟩
  rw [heap_sortedI _ hk,put_cells (sortI_perm zs).length_eq]
theorem zero_gives (W:World) (x:Int):FnGives Tryz.prog 96 #[] #[.int .i64 x] (.bool (decide (x=0))) W:=by
  show Calls Tryz.prog 96 #[.int .i64 x] W _
  go_enter Tryz.func96,Tryz.ntmps96
  go_wp2
  go_ret
  exact ⟨rfl,0,rfl⟩
theorem delInt_calls (g : Nat) (zs : List Int) (T : TypeId) (w : World) (hk : w.heap[g]? = some (.cells (zs.map (Value.int .i64)).toArray T (0, 0))) (hl : zs.length ≤ 100) :
    Calls Tryz.prog 95 #[.slice (some ⟨g,0,none⟩) zs.length zs.length, .func (.func 96) #[] #[]] w fun e w'=>e= .returned (.slice (some ⟨g,0,none⟩) (zs.filter fun h=> !decide (h=0)).length zs.length)∧w.grownBy w' (some g)∧
      ∃ys:List Value,ys.length=zs.length∧ys.take (zs.filter fun h=> !decide (h=0)).length=(zs.filter fun h=> !decide (h=0)).map (Value.int .i64)∧w'.heap[g]? =some (.cells ys.toArray T (0,0)):=by
  have eg: ∀args w,(callFunc 96 args).run Tryz.prog w= .ok (.enter 96 args) w:=enters_of Tryz.func96 (by kernel_rfl) rfl
  have hcon:=AnyE.slices_DeleteFunc Tryz.layDelInt (Value.int .i64) (fun _=>rfl) (fun x=>decide (x=0)) 96 #[] eg 0 (fun w=>by kernel_rfl) g 0 zs.length zs.toArray w (fun W x _=>zero_gives W x) (fun n os dk x _=>zero_gives _ x) (holds_ints hk) (by simp;omega) (by simp)
  have hsz:zs.toArray.size=zs.length:=by simp
  have htl:zs.toArray.toList=zs:=rfl
  rw [hsz,htl] at hcon
  refine Calls.mono hcon ?_
  rintro e w' ⟨rfl,q,rfl⟩
  have hfl:=List.length_filter_le (fun x:Int=> !decide (x=0)) zs
  obtain ⟨ts,hts⟩: ∃ts,ts=(zs.filter fun x=> !decide (x=0))++List.replicate (zs.length - (zs.filter fun x=> !decide (x=0)).length) 0:=⟨_,rfl⟩
  have htl:ts.length=zs.length:=by rw [hts];simp;omega
  rw [←hts]
  have hgr:w.grownBy (putRow (Value.int .i64) (Go.Sort.ahead w q) g 0 ts.toArray) (some g):=by
    rw [←grow_nil (putRow _ _ _ _ _)];exact grownBy_sortedI _
  refine ⟨rfl,hgr,ts.map (Value.int .i64),by rw [List.length_map,htl],?_,?_⟩
  · rw [←List.map_take,hts,List.take_left']
    rfl
  · rw [←grow_nil (putRow _ _ _ _ _),heap_sortedI _ hk,put_cells htl]
theorem pHeld_calls (w : World) (hT : PB w tb ap x O) :
    Calls Tryz.prog 43 #[.pointer (some ⟨tb,0,none⟩)] w fun e w'=> ∃v,e= .returned v∧w'.ownsRow w.heap.size 3 1 v x.held.length (x.held.map (Value.int .i64))∧Below w.heap.size w w':=by
  have kt:=hT.blk
  unfold Pt.held
  cases hov:x.over with
  | true=>
    rw [hov] at kt
    go_enter Tryz.func43,Tryz.ntmps43
    have c_kt:=f3 kt;have l_ktw:=lt_of kt
    go_wp2_with fail
    go_ret
    exact ⟨_,rfl,World.ownsRow_nil _ _ _ _,Below.refl _ _⟩
  | false=>
    rw [hov] at kt
    rw [if_neg (by decide)]
    obtain ⟨zs,hzs⟩: ∃zs,[x.src,x.p.wave,x.p.marks,x.p.spots,x.p.table]=zs:=⟨_,rfl⟩
    have HZ:=Lib.hid hzs
    have hz5:zs.length=5:=by rw [←hzs];rfl
    rw [hzs]
    clear hzs
    go_enter Tryz.func43,Tryz.ntmps43
    have c_kt:=f3 kt;have l_ktw:=lt_of kt
    go_wp2_with fail
    refine wg fun V hV_V=> ?_
    have hB:=Below.refl w.heap.size w
    refine neb1 hV_V hB kt ?_;clear hB kt c_kt;intro z_V hB kt c_kt
    clear hV_V
    refine dr (fun v=>Sm v V (tb)∧(V.heap.size≤v.heap.size)∧True) ⟨fun _=>rfl,Nat.le_refl _,trivial⟩ fun Vd hV_Vd hHeld=> ?_
    have v_kt:=c_kt.1
    refine neb1 hV_Vd hB kt ?_;clear hB kt c_kt;intro z_Vd hB kt c_kt
    clear hV_Vd
    refine ta 0 hHeld ?_
    refine ta 1 hHeld ?_
    refine ta 2 hHeld ?_
    refine ta 3 hHeld ?_
    refine ta 4 hHeld ?_
    refine ta 5 hHeld ?_
    refine ta 6 hHeld ?_
    refine ta 7 hHeld ?_
    refine ta 8 hHeld ?_
    refine ta 9 hHeld ?_
    refine ta 10 hHeld ?_
    refine ta 11 hHeld ?_
    refine ta 12 hHeld ?_
    refine ta 13 hHeld ?_
    refine ta 14 hHeld ?_
    refine ta 15 hHeld ?_
    refine ta 16 hHeld ?_
    refine ta 17 hHeld ?_
    refine ta 18 hHeld ?_
    refine ta 19 hHeld ?_
    refine ta 20 hHeld ?_
    refine ta 21 hHeld ?_
    refine ta 22 hHeld ?_
    refine ta 23 hHeld ?_
    refine rd 24 rfl fun K hK=> ?_
    go_simp
    refine gen_app (K:=K) (fun D hV_D=> ?_)
    refine neb1 hV_D hB kt ?_;clear hB kt c_kt;intro z_D hB kt c_kt
    obtain ⟨kn,c_kn,l_knD⟩:=nM hV_D (Vd.heap.size)
    clear hV_D
    refine ho hK (⟨vv c_kt v_kt,by omega,trivial⟩) fun hHeld=> ?_
    clear hK K
    refine rd 25 rfl fun K hK=> ?_
    go_simp
    refine ho hK hHeld fun hHeld=> ?_
    clear hK K
    refine wd ?_
    have hgw:w.heap.size≤Vd.heap.size:=by omega
    have kz:D.heap[Vd.heap.size]? =some (.cells (zs.map (Value.int .i64)).toArray 3 (0,0)):=by rw [kn,←HZ.out];rfl
    have hc1:=sortInt_calls Vd.heap.size zs 3 D kz (by omega)
    rw [hz5] at hc1
    clear kt kn c_kt c_kn v_kt hHeld kz
    generalize Vd.heap.size=g at hc1 hgw⊢
    go_wp2_with fail
    refine hc1.mono ?_
    rintro e1 W1 ⟨rfl,hg1,hk1⟩
    have hs5:(sortI zs).length=5:=by rw [(sortI_perm zs).length_eq,hz5]
    have hc2:=delInt_calls g (sortI zs) 3 W1 hk1 (by omega)
    rw [hs5] at hc2
    have hB1:=hB.grown hg1 hB.size (fun j hj=>by cases hj;exact hgw)
    have HB1:=Lib.hid hB1
    clear hc1 hg1 hk1 hB hB1
    go_wp2_with fail
    refine hc2.mono ?_
    rintro e2 W2 ⟨rfl,hg2,ys,hy1,hy2,hk2⟩
    have HB2:=Lib.hid (HB1.out.grown hg2 HB1.out.size (fun j hj=>by cases hj;exact hgw))
    have hfl:=List.length_filter_le (fun h:Int=> !decide (h=0)) (sortI zs)
    clear hc2 hg2
    go_wp2_with fail
    go_ret
    refine ⟨_,rfl,⟨by simp, .inr ⟨g,5,ys.toArray,rfl,hgw,hk2,by omega,by unfold maxLen;omega,by simp [hy1],by rw [Nat.mul_one,←hy2]⟩⟩,HB2.out⟩
end
section
open Go.RowKit Go.Sort
attribute [local go_sem ↓] Go.wp_at_zero Go.wp_at_succ
attribute [local go_sem] lt_s2 lt_s3 lt_s4 str_len
variable {s : Ar} {O : Nat → Prop}
theorem symText_calls (t:List UInt8) (w:World):Calls Tryz.prog 90 #[strOf t] w fun e w'=>e= .returned (.bool (decide (t.length≤40)))∧w=w':=by
  go_enter Tryz.func90,Tryz.ntmps90
  go_wp2_with fail
  go_ret
  refine ⟨ret_bool ?_,rfl⟩
  simp only [Int.ofNat_le,decide_eq_decide]
  omega
theorem pNew_yes (p : Addr) (root rate id : Int) (t : List UInt8) (l : List (Int × Int)) (hl : lAll s (vOf s root).table = some l) (hll : l.length ≤ 50000)
    (hvi:vIs s root=true) (h1:1≤rate) (h2:rate≤16) (h3:1≤id) (hpl:(placeIn id l 0).2=false) (h4:t.length≤40) (h10:vDocs s root<10) (w:World) (hA:AP w (.pointer (some p)) s O):
    Calls Tryz.prog 40 #[.pointer (some p), .int .i64 root, .int .i64 rate, .int .i64 id,strOf t] w fun e w'=> ∃b O',e= .returned (.tuple #[.pointer (some ⟨b,0,none⟩), .int .i64 0])∧w.heap.size≤b∧PB w' b (.pointer (some p)) (Pt.new s root rate id t) O'∧Fr noX O O' w w':=by
  have Hl:=Lib.hid hl;have Hll:=Lib.hid hll
  have d1:decide (rate<1)=false:=by simp;omega
  have d2:decide (16<rate)=false:=by simp;omega
  have d3:decide (id<1)=false:=by simp;omega
  have d4:decide (t.length≤40)=true:=by simpa using h4
  have d5:decide (10≤vDocs s root)=false:=by simp;omega
  clear hl hll h1 h2 h3 h4 h10
  go_enter Tryz.func40,Tryz.ntmps40
  go_wp2_with fail
  refine cg fun V hV_V=> ?_
  have hF:=Fr.refl (noX) O w
  refine nef0 hV_V hA hF ?_;clear hA hF;intro z_V hA hF
  clear hV_V
  refine rC (vOf_calls root _ hA) fun W1 hb_W1=> ?_
  refine bef0 hb_W1 hA hF ?_;clear hb_W1 hA hF;intro z_W1 hA hF
  unfold Parts.val
  rw [hvi]
  go_wp2_with fail
  refine calls_gen fun V2 hV_V2=> ?_
  refine nnf0 hV_V2 hA hF ?_;clear hA hF;intro hn_V2 z_V2 hA hF
  obtain ⟨kp,c_kp,o_kp,l_kpV2⟩:=nN hn_V2 hV_V2 (W1.heap.size)
  clear hV_V2 hn_V2
  refine rC (tPlace_calls _ id l Hl.out Hll.out _ hA) fun W3 hb_W3=> ?_
  refine bef1 hb_W3 hA hF kp ?_;clear hb_W3 hA hF kp c_kp;intro z_W3 hA hF kp c_kp
  rw [hpl]
  go_wp2_with fail
  refine (symText_calls t _).mono ?_
  rintro e4 w4 ⟨rfl,rfl⟩
  rw [d4]
  go_wp2_with fail
  refine cg fun V4 hV_V4=> ?_
  refine nef1 hV_V4 hA hF kp ?_;clear hA hF kp c_kp;intro z_V4 hA hF kp c_kp
  clear hV_V4
  refine rC (vDocs_calls root _ hA) fun W5 hb_W5=> ?_
  refine bef1 hb_W5 hA hF kp ?_;clear hb_W5 hA hF kp c_kp;intro z_W5 hA hF kp c_kp
  go_wp2_with fail
  refine cg fun V6 hV_V6=> ?_
  refine nef0 hV_V6 hA hF ?_;clear hA hF c_kp kp;intro z_V6 hA hF
  clear hV_V6
  refine wC (keep_calls _ _ hA) fun W7 O1 hA_W7 hf_W7=> ?_
  refine wif0 hf_W7 hF ?_;clear hA hF hf_W7;intro z_W7 hF;have hA:=hA_W7;clear hA_W7
  unfold strOf
  go_wp2_with fail
  go_ret2
  refine ⟨W7.heap.size,O1,rfl,by have:=hF.size;omega,?_,hF.alloc _⟩
  exact ⟨hA.alloc _,blk_new _ _ _ rfl,hA.new (Nat.le_refl _)⟩
end
section
open Go.RowKit Go.Sort
attribute [local go_sem ↓] Go.wp_at_zero Go.wp_at_succ
attribute [local go_sem] lt_s2 lt_s3 lt_s4 str_len
variable {ap : Value} {O : Nat → Prop} {tb : Nat}
theorem pSwap_calls (x : Pt) (i : Nat) (hi : i < 4) (r : Int × Int × Ar) (w : World) (hT : PB w tb ap { x with s := r.2.2 } O) :
    Calls Tryz.prog 136 #[.pointer (some ⟨tb,0,none⟩), .pointer (some ⟨tb,5+i,none⟩), .int .i64 r.1, .int .i64 r.2.1] w fun e w'=>e= .returned (.int .i64 (x.swap i r).1)∧DidP tb ap (x.swap i r).2 O w w':=by
  obtain ⟨h,e,s⟩:=r
  dsimp only at hT⊢
  by_cases he:e=0
  · subst he
    have E1:Hid (x.swap i (h,0,s)=(0,{x with s:=s.drop (x.p.at i),p:=x.p.put i h})):=Lib.hid (by unfold Pt.swap;rw [if_pos rfl])
    rw [E1.out]
    have h4:i=0∨i=1∨i=2∨i=3:=by omega
    clear hi E1
    rcases h4 with rfl|rfl|rfl|rfl<;>
    (skip
     go_enter Tryz.func136,Tryz.ntmps136
     have hA:=hT.hA
     have kt:=hT.blk
     have o_kt:=hT.no
     have c_kt:=f3 kt;have l_ktw:=lt_of kt
     go_wp2_with fail
     refine wg fun V hV_V=> ?_
     have hF:=Fr.refl ((oneX tb)) O w
     refine nef1 hV_V hA hF kt ?_;clear hA hF kt c_kt;intro z_V hA hF kt c_kt
     clear hV_V
     refine dr (fun v=>Sm v V (tb)∧(V.heap.size≤v.heap.size)∧True) ⟨fun _=>rfl,Nat.le_refl _,trivial⟩ fun Vd hV_Vd hHeld=> ?_
     have v_kt:=c_kt.1
     refine nef1 hV_Vd hA hF kt ?_;clear hA hF kt c_kt;intro z_Vd hA hF kt c_kt
     clear hV_Vd
     refine ta 0 hHeld ?_
     refine ta 1 hHeld ?_
     refine ta 2 hHeld ?_
     refine ta 3 hHeld ?_
     refine ta 4 hHeld ?_
     refine ta 5 hHeld ?_
     refine ta 6 hHeld ?_
     refine rd 7 rfl fun K hK=> ?_
     go_simp
     try simp only [IntWalk.i64_left]
     refine wC (drop_calls _ _ hA) fun W O1 hA_W hf_W=> ?_
     refine wif1 hf_W hF kt o_kt ?_;clear hA hF kt o_kt c_kt hf_W;intro z_W hF kt c_kt o_kt;have hA:=hA_W;clear hA_W
     refine ho hK ⟨vv c_kt v_kt,by omega,trivial⟩ fun hHeld=> ?_
     clear hK K
     refine wd ?_
     go_wp2_with fail
     go_ret
     refine ⟨rfl,?_⟩
     refine didp_gen (fun V2 hV_V2=> ?_)
     refine nef1 hV_V2 hA hF kt ?_;clear hA hF kt c_kt;intro z_V2 hA hF kt c_kt
     clear hV_V2
     exact ⟨_,⟨hA,kt,o_kt⟩,hF⟩
     done)
  · have d1:(e==0)=false:=by simpa using he
    have E1:Hid (x.swap i (h,e,s)=(e,{x with s:=s})):=Lib.hid (by unfold Pt.swap;rw [if_neg he])
    rw [E1.out]
    clear he
    go_enter Tryz.func136,Tryz.ntmps136
    have hA:=hT.hA
    have kt:=hT.blk
    have o_kt:=hT.no
    have c_kt:=f3 kt;have l_ktw:=lt_of kt
    go_wp2_with fail
    go_ret
    exact ⟨rfl,O,⟨hA,kt,o_kt⟩,Fr.refl _ _ _⟩
def Pt.drops (x:Pt) (l:List Int):Pt:={x with s:=x.s.dropAll l}
theorem pStop_calls (x : Pt) (w : World) (hT : PB w tb ap x O) :
    Calls Tryz.prog 94 #[.pointer (some ⟨tb,0,none⟩)] w fun e w'=>e= .returned (.tuple #[])∧DidP tb ap x.stop O w w':=by
  obtain ⟨l,hl⟩: ∃l,x.held=l:=⟨_,rfl⟩
  have hl5:l.length≤5:=by
    rw [←hl];unfold Pt.held
    split
    · simp
    · refine Nat.le_trans (List.length_filter_le _ _) ?_
      rw [(sortI_perm _).length_eq];simp
  have Hst:Hid (x.stop={x with s:=x.s.dropAll l,over:=true,p:=Parts.zero}):=Lib.hid (by unfold Pt.stop;rw [hl])
  go_enter Tryz.func94,Tryz.ntmps94
  go_wp2_with fail
  refine (pHeld_calls _ hT).mono ?_
  rintro e0 W0 ⟨v,rfl,hown,hb0⟩
  rw [hl] at hown
  have hF0:Fr (oneX tb) O O w W0:=(Fr.refl _ _ _).below hb0
  have hT0:PB W0 tb ap x O:=⟨hT.hA.below hb0,keep_blk hb0 hT.blk,hT.no⟩
  have HT0:=Lib.hid hT0;have HF0:=Lib.hid hF0
  have hrow:(v= .slice none 0 0∧l=[])∨ ∃g cap cs,v= .slice (some ⟨g,0,none⟩) l.length cap∧W0.heap[g]? =some (.cells cs 3 (0,0))∧(∀j (h:j<l.length),cs[j]? =some (.int .i64 l[j]))∧ ¬O g∧g≠tb:=by
    rcases hown.2 with ⟨h1,h2⟩|⟨g,cap,cur,h1,h2,h3,h4,h5,h6,h7⟩
    · exact .inl ⟨h1,List.length_eq_zero_iff.1 h2⟩
    · refine .inr ⟨g,cap,cur,h1,h3,fun j hj=> ?_,fun hO=> ?_,fun e=> ?_⟩
      · have:=congrArg (fun l=>l[j]?) h7
        simp only [Nat.mul_one,List.getElem?_take_of_lt hj,List.getElem?_map,List.getElem?_eq_getElem hj,Option.map_some] at this
        rw [←this];simp
      · have:=hT.hA.lt hO;omega
      · have:=lt_of hT.blk;omega
  clear hT hown hb0 hT0 hF0 hl
  rcases hrow with ⟨rfl,rfl⟩|⟨g,cap,cs,rfl,hcs,hcell,hov,hne⟩
  · have kt:=HT0.out.blk
    have c_kt:=f3 kt;have l_ktW0:=lt_of kt
    go_wp2_with fail
    go_loopw [7] (fun c wr=>c= .int .i64 0∧wr=W0) (fun _ _=>0)
    case atStart=>exact ⟨rfl,rfl⟩
    case round=>
      obtain ⟨rfl,rfl⟩:=hrel
      go_wp2_with fail
      go_end0
      rw [Hst.out]
      refine ⟨rfl,?_⟩
      have hA:=HT0.out.hA
      have o_kt:=HT0.out.no
      have hF:=HF0.out
      refine didp_gen (fun V2 hV_V2=> ?_)
      refine nef1 hV_V2 hA hF kt ?_;clear hA hF kt c_kt;intro z_V2 hA hF kt c_kt
      clear hV_V2
      exact ⟨_,⟨hA,kt,o_kt⟩,hF⟩
  · have kt:=HT0.out.blk
    have c_kt:=f3 kt;have l_ktW0:=lt_of kt
    have Hcell:=Lib.hid hcell
    clear hcell
    go_wp2_with fail
    go_loopw [7] (fun c wr=> ∃i:Nat,i≤l.length∧c= .int .i64 i∧wr.heap[g]? =some (.cells cs 3 (0,0))∧ ∃O',PB wr tb ap (x.drops (l.take i)) O'∧Fr (oneX tb) O O' w wr∧ ¬O' g) (fun c _=>l.length - (intOf c).toNat)
    case atStart=>exact ⟨0,Nat.zero_le _,rfl,hcs,O,HT0.out,HF0.out,hov⟩
    case round=>
      obtain ⟨i,hi,rfl,hcs',O',hT',hF',hov'⟩:=hrel
      clear kt c_kt
      by_cases hlt:i<l.length
      · have d1:decide (i<l.length)=true:=by simpa using hlt
        have cb:=cells_of hcs'
        have ci:wr.cell? ⟨g,i,none⟩=some (.int .i64 l[i]):=by rw [cb];exact Hcell.out i hlt
        have kt:=hT'.blk
        have HT:=Lib.hid hT';have HF:=Lib.hid hF'
        have HD:Hid ((x.drops (l.take (i+1))).s=((x.drops (l.take i)).s).drop l[i]):=Lib.hid (drop_take x.s l i hlt)
        clear hT' hF' cb
        have c_kt:=f3 kt;have l_ktwr:=lt_of kt
        go_wp2_with fail
        refine (drop_calls _ _ HT.out.hA).mono ?_
        rintro e w1 ⟨rfl,O1,hA1,hf1⟩
        clear kt c_kt
        go_wp2_with fail
        go_roundw
        case rel=>
          refine ⟨i+1,by omega,by go_num,hf1.keep hcs' hov' (fun h=>h),O1,⟨?_,hf1.keep HT.out.blk HT.out.no (fun h=>h),hf1.not_own (lt_of HT.out.blk) HT.out.no⟩,HF.out.trans hf1.widen,hf1.not_own (lt_of hcs') hov'⟩
          rw [HD.out];exact hA1
        case measure=>simp [intOf];omega
      · have d1:decide (i<l.length)=false:=by simpa using hlt
        obtain rfl:i=l.length:=by omega
        rw [List.take_length] at hT'
        have kt:=hT'.blk
        have hA:AP wr ap (x.s.dropAll l) O':=hT'.hA
        have o_kt:=hT'.no
        have hF:=hF'
        have c_kt:=f3 kt;have l_ktwr:=lt_of kt
        go_wp2_with fail
        go_end0
        rw [Hst.out]
        refine ⟨rfl,?_⟩
        refine didp_gen (fun V3 hV_V3=> ?_)
        replace kt:=kK hV_V3 kt
        exact ⟨O',⟨(nA hV_V3:AP V3 ap (x.s.dropAll l) O'),kt,o_kt⟩,nF hV_V3⟩
end
section
open Go.RowKit Go.Sort
attribute [local go_sem ↓] Go.wp_at_zero Go.wp_at_succ
attribute [local go_sem] lt_s2 lt_s3 lt_s4 str_len
variable {ap : Value} {O : Nat → Prop} {tb : Nat}
theorem pBegin_calls (x : Pt) (r : Int × Pt) (hr : x.begin = some r) (w : World) (hT : PB w tb ap x O) :
    Calls Tryz.prog 92 #[.pointer (some ⟨tb,0,none⟩)] w fun e w'=>e= .returned (.int .i64 r.1)∧DidP tb ap r.2 O w w':=by
  have Hr:=Lib.hid hr;clear hr
  go_enter Tryz.func92,Tryz.ntmps92
  have hA:=hT.hA
  have kt:=hT.blk
  have o_kt:=hT.no
  have c_kt:=f3 kt;have l_ktw:=lt_of kt
  go_wp2_with fail
  refine wg fun V hV_V=> ?_
  have hF:=Fr.refl ((oneX tb)) O w
  refine nef1 hV_V hA hF kt ?_;clear hA hF kt c_kt;intro z_V hA hF kt c_kt
  clear hV_V
  go_cut [3,4] from 3 (fun s3 s4 wx=> ∃B,s3= .pointer (some ⟨B,0,none⟩)∧s4= .bool (vIs x.s x.src)∧AP wx ap x.s O∧Fr (oneX tb) O O w wx∧wx.heap[tb]? =some (.cells #[ap, .int .i64 x.src, .int .i64 x.rate, .int .i64 x.id,strOf x.text, .int .i64 x.p.wave, .int .i64 x.p.marks, .int .i64 x.p.spots, .int .i64 x.p.table, .int .i64 x.pos, .int .i64 x.row, .bool x.begun, .bool x.over, .int .i64 x.root] 125 (0,0))∧wx.heap[B]? =some (.cells #[.int .i64 (vOf x.s x.src).wave, .int .i64 (vOf x.s x.src).marks, .int .i64 (vOf x.s x.src).spots, .int .i64 (vOf x.s x.src).table] 52 (0,0))∧ ¬O B∧B≠tb∧w.heap.size≤B)
  case first=>
    refine dr (fun v=>Sm v V (tb)∧(V.heap.size≤v.heap.size)∧AP v ap x.s O) ⟨fun _=>rfl,Nat.le_refl _,hA.drew⟩ fun Vd hV_Vd hHeld=> ?_
    have v_kt:=c_kt.1
    refine nef1 hV_Vd hA hF kt ?_;clear hA hF kt c_kt;intro z_Vd hA hF kt c_kt
    clear hV_Vd
    refine ta 0 hHeld ?_
    refine ta 1 hHeld ?_
    refine ta 2 hHeld ?_
    refine ta 3 hHeld ?_
    refine ta 4 hHeld ?_
    refine ta 5 hHeld ?_
    refine ta 6 hHeld ?_
    refine ta 7 hHeld ?_
    refine wpAnyH_ready (rs:=[8,12]) (by kernel_rfl) (by simp) (ready_at (i:=8) rfl (fun K hK=> ?_) (ready_at (i:=12) rfl (fun K hK=> ?_) AllReadyH.nil))
    · go_simp
      try simp only [IntWalk.i64_left]
      refine rC (vOf_calls x.src _ hA) fun W hb_W=> ?_
      refine bef1 hb_W hA hF kt ?_;clear hb_W hA hF kt c_kt;intro z_W hA hF kt c_kt
      refine ho hK ⟨vv c_kt v_kt,by omega,hA⟩ fun hHeld=> ?_
      clear hK K
      refine ta 9 hHeld ?_
      refine ta 10 hHeld ?_
      refine ta 11 hHeld ?_
      refine rd 12 rfl fun K hK=> ?_
      go_simp
      refine ga (K:=K) fun D hV_D=> ?_
      refine nnf1 hV_D hA hF kt ?_;clear hA hF kt c_kt;intro hn_D z_D hA hF kt c_kt
      obtain ⟨kn,c_kn,o_kn,l_knD⟩:=nN hn_D hV_D (W.heap.size)
      clear hV_D hn_D
      refine ho hK ⟨vv c_kt v_kt,by omega,hA⟩ fun hHeld=> ?_
      clear hK K
      unfold Parts.val
      refine rd 13 rfl fun K hK=> ?_
      go_simp
      refine ga (K:=K) fun D2 hV_D2=> ?_
      refine nef2 hV_D2 hA hF kt kn ?_;clear hA hF kt kn c_kt c_kn;intro z_D2 hA hF kt c_kt kn c_kn
      clear hV_D2
      refine ho hK ⟨vv c_kt v_kt,by omega,hA⟩ fun hHeld=> ?_
      clear hK K
      refine rd 14 rfl fun K hK=> ?_
      go_simp
      refine ho hK hHeld fun hHeld=> ?_
      clear hK K
      refine wd ?_
      go_wp2_with fail
      go_meet
      exact ⟨_,rfl,rfl,hA,hF,kt,kn,o_kn,by omega,by omega⟩
    · go_simp
      refine ga (K:=K) fun D hV_D=> ?_
      refine nnf1 hV_D hA hF kt ?_;clear hA hF kt c_kt;intro hn_D z_D hA hF kt c_kt
      obtain ⟨kn,c_kn,o_kn,l_knD⟩:=nN hn_D hV_D (Vd.heap.size)
      clear hV_D hn_D
      refine ho hK ⟨vv c_kt v_kt,by omega,hA⟩ fun hHeld=> ?_
      clear hK K
      refine rd 8 rfl fun K hK=> ?_
      go_simp
      try simp only [IntWalk.i64_left]
      refine rC (vOf_calls x.src _ hA) fun W hb_W=> ?_
      refine bef2 hb_W hA hF kt kn ?_;clear hb_W hA hF kt kn c_kt c_kn;intro z_W hA hF kt c_kt kn c_kn
      refine ho hK ⟨vv c_kt v_kt,by omega,hA⟩ fun hHeld=> ?_
      clear hK K
      unfold Parts.val
      refine ta 9 hHeld ?_
      refine ta 10 hHeld ?_
      refine ta 11 hHeld ?_
      refine rd 13 rfl fun K hK=> ?_
      go_simp
      refine ga (K:=K) fun D2 hV_D2=> ?_
      refine nef2 hV_D2 hA hF kt kn ?_;clear hA hF kt kn c_kt c_kn;intro z_D2 hA hF kt c_kt kn c_kn
      clear hV_D2
      refine ho hK ⟨vv c_kt v_kt,by omega,hA⟩ fun hHeld=> ?_
      clear hK K
      refine rd 14 rfl fun K hK=> ?_
      go_simp
      refine ho hK hHeld fun hHeld=> ?_
      clear hK K
      refine wd ?_
      go_wp2_with fail
      go_meet
      exact ⟨_,rfl,rfl,hA,hF,kt,kn,o_kn,by omega,by omega⟩
  case rest=>
    obtain ⟨q,hq⟩: ∃q,vOf x.s x.src=q:=⟨_,rfl⟩
    rw [hq] at hcut
    have hr:=Hr.out
    have hst:x.start={x with s:=keepP x.s q,p:=q,begun:=true,row:=lLen (keepP x.s q) q.table}:=by unfold Pt.start;rw [hq]
    unfold Pt.begin at hr
    rw [hst] at hr
    dsimp only at hr
    obtain ⟨a,ha,hr⟩:=Option.bind_eq_some_iff.1 hr
    split at hr
    rotate_left
    · cases hr
    rename_i hal
    obtain ⟨r1,hr1,rfl⟩:=Option.map_eq_some_iff.1 hr
    have Ha:=Lib.hid ha;have Hr1:=Lib.hid hr1;have Hal:=Lib.hid hal
    clear hA hF kt c_kt Hr hr hst ha hr1 hal z_V hq
    obtain ⟨B,rfl,rfl,hA,hF,kt,kn,o_kn,hne,hge⟩:=hcut
    have c_kt:=f3 kt;have l_ktwc:=lt_of kt
    have c_kn:=f3 kn;have l_knwc:=lt_of kn
    go_wp2_with fail
    refine wp_gen fun V2 hV_V2=> ?_
    refine nnf2 hV_V2 hA hF kt kn ?_;clear hA hF kt kn c_kt c_kn;intro hn_V2 z_V2 hA hF kt c_kt kn c_kn
    obtain ⟨kg,c_kg,o_kg,l_kgV2⟩:=nN hn_V2 hV_V2 (wc.heap.size)
    clear hV_V2 hn_V2
    obtain ⟨g,hg⟩: ∃g,wc.heap.size=g:=⟨_,rfl⟩
    rw [hg] at kg o_kg⊢
    have HF:=Lib.hid hF;have HA:=Lib.hid hA;have KT:=Lib.hid kt;have KN:=Lib.hid kn;have KG:=Lib.hid kg
    clear hF hA kt kn kg c_kt c_kn c_kg
    obtain ⟨l,hl⟩: ∃l,[q.wave,q.marks,q.spots,q.table]=l:=⟨_,rfl⟩
    have hl4:l.length=4:=by rw [←hl];rfl
    have Hcell:Hid (∀j (h:j<l.length),(#[Value.int .i64 q.wave, .int .i64 q.marks, .int .i64 q.spots, .int .i64 q.table]:Array Value)[j]? =some (.int .i64 l[j])):=Lib.hid (by subst hl;exact part_cell q)
    have Hl:=Lib.hid hl
    clear hl
    go_loopw [31] (fun c wr=> ∃i:Nat,i≤4∧c= .int .i64 i∧ ∃O',Hid (AP wr ap (keepL x.s (l.take i)) O'∧Fr (oneX tb) O O' w wr∧wr.heap[tb]? =some (.cells #[ap, .int .i64 x.src, .int .i64 x.rate, .int .i64 x.id,strOf x.text, .int .i64 x.p.wave, .int .i64 x.p.marks, .int .i64 x.p.spots, .int .i64 x.p.table, .int .i64 x.pos, .int .i64 x.row, .bool x.begun, .bool x.over, .int .i64 x.root] 125 (0,0))∧wr.heap[B]? =some (.cells #[.int .i64 q.wave, .int .i64 q.marks, .int .i64 q.spots, .int .i64 q.table] 52 (0,0))∧wr.heap[g]? =some (.cells #[.int .i64 q.wave, .int .i64 q.marks, .int .i64 q.spots, .int .i64 q.table] 3 (0,0))∧ ¬O' tb∧ ¬O' B∧ ¬O' g)) (fun c _=>4 - (intOf c).toNat)
    case atStart=>exact ⟨0,Nat.zero_le _,rfl,O,Lib.hid ⟨HA.out,HF.out,KT.out,KN.out,KG.out,o_kt,o_kn,o_kg⟩⟩
    case round=>
      obtain ⟨i,hi,rfl,O',HH⟩:=hrel
      obtain ⟨hA',hF',kt,kn,kg,ot,on,og⟩:=HH.out
      by_cases hlt':i<4
      · have d1:decide (i<4)=true:=by simpa using hlt'
        have cb:=cells_of kg
        have ci:wr.cell? ⟨g,i,none⟩=some (.int .i64 (l[i]'(by omega))):=by rw [cb];exact Hcell.out i (by omega)
        have HD:Hid (keepL x.s (l.take (i+1))=(keepL x.s (l.take i)).keep (l[i]'(by omega))):=Lib.hid (keep_take x.s l i (by omega))
        have KN:=Lib.hid kn;have KG:=Lib.hid kg;have HF':=Lib.hid hF'
        clear cb kn kg hF' HH
        have c_kt:=f3 kt;have l_ktwr:=lt_of kt
        go_wp2_with fail
        refine (keep_calls _ _ hA').mono ?_
        rintro e w1 ⟨rfl,O1,hA1,hf1⟩
        clear c_kt
        go_wp2_with fail
        go_roundw
        case rel=>
          refine ⟨i+1,by omega,by go_num,O1,Lib.hid ⟨by rw [HD.out];exact hA1,HF'.out.trans hf1.widen,hf1.keep kt ot (fun h=>h),hf1.keep KN.out on (fun h=>h),hf1.keep KG.out og (fun h=>h),hf1.not_own (lt_of kt) ot,hf1.not_own (lt_of KN.out) on,hf1.not_own (lt_of KG.out) og⟩⟩
        case measure=>simp [intOf];omega
      · have d1:decide (i<4)=false:=by simpa using hlt'
        obtain rfl:i=4:=by omega
        have hkl:keepL x.s (l.take 4)=keepP x.s q:=by rw [←Hl.out];rfl
        rw [hkl] at hA'
        have hA:=hA';have hF:=hF';have o_kt:=ot;have o_kn:=on
        clear hA' hF' kg og ot on HH HF HA KT KN KG
        have c_kt:=f3 kt;have l_ktwr:=lt_of kt
        have c_kn:=f3 kn;have l_knwr:=lt_of kn
        go_wp2_with fail
        refine wp_gen fun V3 hV_V3=> ?_
        refine nef2 hV_V3 hA hF kt kn ?_;clear hA hF kt kn c_kt c_kn;intro z_V3 hA hF kt c_kt kn c_kn
        clear hV_V3
        refine dr (fun v=>(v.cell? ⟨tb,0,none⟩=V3.cell? ⟨tb,0,none⟩)∧Sm v V3 (B)∧(V3.heap.size≤v.heap.size)∧True) ⟨rfl,fun _=>rfl,Nat.le_refl _,trivial⟩ fun V3d hV_V3d hHeld=> ?_
        have v_kt:=c_kt.1;have v_kn:=c_kn.1
        refine nef2 hV_V3d hA hF kt kn ?_;clear hA hF kt kn c_kt c_kn;intro z_V3d hA hF kt c_kt kn c_kn
        clear hV_V3d
        refine ta 0 hHeld ?_
        refine ta 1 hHeld ?_
        refine ta 2 hHeld ?_
        refine ta 3 hHeld ?_
        refine ta 4 hHeld ?_
        refine ta 5 hHeld ?_
        refine ta 6 hHeld ?_
        refine rd 7 rfl fun K hK=> ?_
        go_simp
        try simp only [IntWalk.i64_left]
        refine rC (tLen_calls _ _ hA) fun W3 hb_W3=> ?_
        refine bef2 hb_W3 hA hF kt kn ?_;clear hb_W3 hA hF kt kn c_kt c_kn;intro z_W3 hA hF kt c_kt kn c_kn
        refine ho hK ⟨vo c_kt v_kt 0,vv c_kn v_kn,by omega,trivial⟩ fun hHeld=> ?_
        clear hK K
        refine ta 8 hHeld ?_
        refine ta 9 hHeld ?_
        refine rd 10 rfl fun K hK=> ?_
        go_simp
        refine ga (K:=K) fun D3 hV_D3=> ?_
        refine nef2 hV_D3 hA hF kt kn ?_;clear hA hF kt kn c_kt c_kn;intro z_D3 hA hF kt c_kt kn c_kn
        clear hV_D3
        refine ho hK ⟨vo c_kt v_kt 0,vv c_kn v_kn,by omega,trivial⟩ fun hHeld=> ?_
        clear hK K
        refine wd ?_
        go_wp2_with fail
        refine wg fun V4 hV_V4=> ?_
        refine nef2 hV_V4 hA hF kt kn ?_;clear hA hF kt kn c_kt c_kn;intro z_V4 hA hF kt c_kt kn c_kn
        clear hV_V4
        refine dr (fun v=>Sm v V4 (tb)∧Sm v V4 (B)∧(V4.heap.size≤v.heap.size)∧True) ⟨fun _=>rfl,fun _=>rfl,Nat.le_refl _,trivial⟩ fun V4d hV_V4d hHeld=> ?_
        have v_kt:=c_kt.1;have v_kn:=c_kn.1
        refine nef2 hV_V4d hA hF kt kn ?_;clear hA hF kt kn c_kt c_kn;intro z_V4d hA hF kt c_kt kn c_kn
        clear hV_V4d
        refine ta 0 hHeld ?_
        refine ta 1 hHeld ?_
        refine ta 2 hHeld ?_
        refine ta 3 hHeld ?_
        refine ta 4 hHeld ?_
        refine ta 5 hHeld ?_
        refine ta 6 hHeld ?_
        refine ta 7 hHeld ?_
        refine ta 8 hHeld ?_
        refine ta 9 hHeld ?_
        refine ta 10 hHeld ?_
        refine ta 11 hHeld ?_
        refine ta 12 hHeld ?_
        refine ta 13 hHeld ?_
        refine ta 14 hHeld ?_
        refine rd 15 rfl fun K hK=> ?_
        go_simp
        try simp only [IntWalk.i64_left]
        refine wC (tAdd_calls q.table x.id x.text.length a Ha.out Hal.out r1 Hr1.out _ hA) fun W5 O5 hA_W5 hf_W5=> ?_
        refine wif2 hf_W5 hF kt o_kt kn o_kn ?_;clear hA hF kt o_kt kn o_kn c_kt c_kn hf_W5;intro z_W5 hF kt c_kt o_kt kn c_kn o_kn;have hA:=hA_W5;clear hA_W5
        refine ho hK ⟨vv c_kt v_kt,vv c_kn v_kn,by omega,trivial⟩ fun hHeld=> ?_
        clear hK K
        refine ta 16 hHeld ?_
        refine ta 17 hHeld ?_
        refine ta 18 hHeld ?_
        refine rd 19 rfl fun K hK=> ?_
        go_simp
        refine ho hK hHeld fun hHeld=> ?_
        clear hK K
        refine rd 20 rfl fun K hK=> ?_
        go_simp
        refine ho hK hHeld fun hHeld=> ?_
        clear hK K
        refine wd ?_
        go_wp2_with fail
        refine cg fun V6 hV_V6=> ?_
        refine nef1 hV_V6 hA hF kt ?_;clear hA hF kt c_kt c_kn kn;intro z_V6 hA hF kt c_kt
        clear hV_V6
        refine tC (pSwap_calls {x with s:=keepP x.s q,p:=q,begun:=true,row:=lLen (keepP x.s q) q.table} 3 (by omega) r1 _ ⟨hA,kt,o_kt⟩) fun W6 O6 hT hf=> ?_
        refine ti0 hT.hA hT.blk hT.no hf hF ?_;clear hA hF kt c_kt o_kt hT hf;intro z_W6 hA hF kt c_kt o_kt
        go_wp2_with fail
        go_ret
        exact ⟨rfl,O6,⟨hA,kt,o_kt⟩,hF⟩
end
section
open Go.RowKit Go.Sort
attribute [local go_sem ↓] Go.wp_at_zero Go.wp_at_succ
attribute [local go_sem] str_len
def Gr (w w':World):Prop:= ∃q os,w'=grow (w.drewN q) os
theorem Gr.refl (w:World):Gr w w:=⟨0,#[],(grow_empty _).symm⟩
theorem Gr.trans {a b c:World} (h1:Gr a b) (h2:Gr b c):Gr a c:=by
  obtain ⟨q,os,rfl⟩:=h1
  obtain ⟨q',os',rfl⟩:=h2
  exact ⟨q+q',os++os',by show grow (grow ((a.drewN q).drewN q') os) os'=_;rw [grow_grow,World.drewN_drewN]⟩
theorem Gr.alloc (w:World) (o:Obj):Gr w (w.alloc o):=⟨0,#[o],alloc_eq_grow w o⟩
theorem Gr.drewN (w:World) (q:Nat):Gr w (w.drewN q):=⟨q,#[],(grow_empty _).symm⟩
theorem Gr.below {w w':World} (h:Gr w w'):Below w.heap.size w w':=by
  obtain ⟨q,os,rfl⟩:=h
  exact ⟨rfl,rfl,rfl,by simp [grow,World.drewN],fun k hk=>by simp [grow,World.drewN,Array.getElem?_append,hk]⟩
end
section
open Go.RowKit
attribute [local go_sem ↓] Go.wp_at_zero Go.wp_at_succ
attribute [local go_sem] str_len
theorem rowCells_append (a b:List (Nat×Nat)):rowCells (a++b)=rowCells a++rowCells b:=by unfold rowCells rowInts;rw [List.map_append,itemCells_append]
theorem rowCells_take: ∀(l:List (Nat×Nat)) (k:Nat),(rowCells l).take (k*2)=rowCells (l.take k)
  | [],k=>by simp [rowCells,rowInts,itemCells]
  | x::l,0=>rfl
  | x::l,k+1=>by
    have:=rowCells_take l k
    rw [show (k+1)*2=k*2+1+1 by omega]
    unfold rowCells rowInts at this⊢
    simp [itemCells,this]
theorem rowCells_drop: ∀(l:List (Nat×Nat)) (k:Nat),(rowCells l).drop (k*2)=rowCells (l.drop k)
  | [],k=>by simp [rowCells,rowInts,itemCells]
  | x::l,0=>rfl
  | x::l,k+1=>by
    have:=rowCells_drop l k
    rw [show (k+1)*2=k*2+1+1 by omega]
    unfold rowCells rowInts at this⊢
    simp [itemCells,this]
theorem rowCells_one (l:List (Nat×Nat)): ∀u∈rowCells l,u.oneCell'=true:=by
  unfold rowCells rowInts
  induction l with
  | nil=>simp [itemCells]
  | cons x l ih=>
    intro u hu
    simp only [List.map_cons,itemCells,List.mem_cons] at hu
    rcases hu with rfl|rfl|hu
    · rfl
    · rfl
    · exact ih u hu
theorem rowCells_at {l:List (Nat×Nat)} {i:Nat} {r:Nat×Nat} (h:l[i]? =some r):(rowCells l)[i*2]? =some (.int .i64 (r.1:Int))∧(rowCells l)[i*2+1]? =some (.int .i64 (r.2:Int)):=by
  unfold rowCells rowInts
  exact itemCells_at _ i ((r.1:Int),(r.2:Int)) (by simp [h])
theorem step_wrap (j n:Nat) (h:j≤n) (hn:n≤50000):wrap64 ((j:Int)+1)=(j:Int)+1:=IntWalk.wrap64_in _ (by omega)
theorem sorted_walk (v : Value) (ts : List (List UInt8)) (hrt : refRight ts = true) (w : World) (h : Rk w 1 v ts.length (ts.map strOf)) :
    Calls Tryz.prog 56 #[v] w fun e w'=> ∃v',e= .returned v'∧w'.ownsRow w.heap.size 86 2 v' (refFold ts (upto ts ts.length 0)).length (rowCells (refFold ts (upto ts ts.length 0)))∧Below w.heap.size w w':=by
  obtain ⟨hn10,h40⟩:=right_len hrt
  have H40:=Lib.hid h40;clear h40
  have HK:=Lib.hid h
  obtain ⟨h1,A,cap,rfl,h2⟩:=h
  clear h1 h2
  go_enter Tryz.func56,Tryz.ntmps56
  go_wp2_with fail
  refine cg fun V0 hV_V0=> ?_
  have hB:=Below.refl w.heap.size w
  refine neb0 hV_V0 hB ?_;clear hB;intro z_V0 hB
  clear hV_V0
  refine rC (rright_calls _ ts (by omega) _ (HK.out.below hB)) fun W0 hb_W0=> ?_
  refine beb0 hb_W0 hB ?_;clear hb_W0 hB;intro z_W0 hB
  rw [hrt]
  have HB0:=Lib.hid hB;clear hB
  go_wp2_with fail
  go_loopg [3,4] ts.length (fun k p q wr=> ∃d:Nat,q= .int .i64 (d:Int)∧d+k=ts.length∧Hid (wr.ownsRow w.heap.size 86 2 p (refFold ts (upto ts d 0)).length (rowCells (refFold ts (upto ts d 0))))∧Hid (Below w.heap.size w wr))
  case atStart=>exact ⟨0,rfl,by omega,Lib.hid (own_nil _ _ _ _),HB0⟩
  case round=>
    clear HB0
    obtain ⟨d,rfl,hk,Hown,HB⟩:=hrel
    by_cases hlt:d<ts.length
    · obtain ⟨k,rfl⟩: ∃k,gk=k+1:=⟨gk - 1,by omega⟩
      obtain ⟨t,ht⟩:=at_some hlt
      have n1:decide ((d:Int)<(ts.length:Int))=true:=by simpa using hlt
      have n2:(d:Int)<(ts.length:Int):=by omega
      have E3:=Lib.hid (step_wrap d 10 (by omega) (by omega))
      have hgd:=getD_at ht
      have hlen:=H40.out d
      rw [hgd] at hlen
      go_wp2_with fail
      go_loopg [3,5] (t.length+1) (fun k2 p q wr=> ∃a:Nat,q= .int .i64 (a:Int)∧a+k2=t.length+1∧Hid (wr.ownsRow w.heap.size 86 2 p (refFold ts (upto ts d a)).length (rowCells (refFold ts (upto ts d a))))∧Hid (Below w.heap.size w wr))
      case atStart=>exact ⟨0,rfl,by omega,Hown,HB⟩
      case round=>
        clear Hown HB
        obtain ⟨a,rfl,hk2,Hown,HB⟩:=hrel
        obtain ⟨-,A',cap',hv,h2⟩:=HK.out.below HB.out
        obtain ⟨g,cs,T,rfl,kg,hcs⟩:=h2 (by omega)
        obtain ⟨rfl, -,rfl⟩:=Value.slice.inj hv
        have hci:cs[d]? =some (strOf t):=by rw [hcs d (by omega),List.getElem?_map,ht];rfl
        clear h2 hv hcs
        have c_kg:=f3 kg;have l_kgwr:=lt_of kg
        by_cases hla:a≤t.length
        · obtain ⟨k2,rfl⟩: ∃k,gk=k+1:=⟨gk - 1,by omega⟩
          have m1:decide ((a:Int)≤(t.length:Int))=true:=by simp;omega
          have E4:=Lib.hid (step_wrap a 40 (by omega) (by omega))
          have hw0:=HB.out.size
          have hd10:d≤10:=by omega
          have ha41:a≤41:=by omega
          have hB:=Below.refl wr.heap.size wr
          have c_kg:=f3 kg;have l_kgwr:=lt_of kg
          go_wp2_with fail
          refine wg fun V hV_V=> ?_
          refine neb1 hV_V hB kg ?_;clear hB kg c_kg;intro z_V hB kg c_kg
          obtain ⟨kr,c_kr,l_krV⟩:=nM hV_V (wr.heap.size)
          clear hV_V
          have hownV:=own_below Hown.out hB
          have hBV:=below_step HB.out hB
          have hszV:=hBV.size
          obtain ⟨out,hout⟩: ∃out,out=refFold ts (upto ts d a):=⟨_,rfl⟩
          rw [←hout] at hownV
          have hol:out.length≤500:=by rw [hout];exact fold_small hrt d a hd10 ha41
          have hval: ∀x,x∈out→ ∃t',ts[x.1]? =some t'∧x.2≤t'.length:=fun x hx=>fold_valid d a t ht hla x (hout▸hx)
          obtain ⟨-,A3,c3,rfl,hx3⟩:=Rx.of_own hownV
          have HownV:=Lib.hid hownV;have HBV:=Lib.hid hBV;have Hval:=Lib.hid hval;have Hout:=Lib.hid hout;have HX3:=Lib.hid hx3;have KG:=Lib.hid kg;have KR:=Lib.hid kr
          clear hownV hBV hval hout hx3 Hown kg kr c_kg c_kr hB
          generalize hkrb:wr.heap.size=krb at*
          go_loopg [7] out.length (fun k3 p wr=> ∃j:Nat,p= .int .i64 (j:Int)∧j+k3=out.length∧Hid (∀i x,i<j→out[i]? =some x→refLess ts x (d,a)=true)∧Below V.heap.size V wr)
          case atStart=>exact ⟨0,rfl,by omega,Lib.hid (fun i x hi=>absurd hi (by omega)),Below.refl _ _⟩
          case round=>
            obtain ⟨j,rfl,hk3,Hpre,hB2⟩:=hrel
            have hsz2:=hB2.size
            by_cases hj:j<out.length
            · obtain ⟨k3,rfl⟩: ∃k,gk=k+1:=⟨gk - 1,by omega⟩
              obtain ⟨x,hx⟩:=at_some hj
              obtain ⟨t1,ht1,hx2⟩:=Hval.out x (List.mem_of_getElem? hx)
              obtain ⟨g3,rfl,hg3,hc3⟩:=HX3.out (by omega)
              have c1:wr.cell? ⟨g3,j*2,none⟩=some (.int .i64 (x.1:Int)):=((hB2.cell (by exact hg3)).trans (hc3 _ (by omega))).trans (rowCells_at hx).1
              have c2:wr.cell? ⟨g3,j*2+1,none⟩=some (.int .i64 (x.2:Int)):=((hB2.cell (by exact hg3)).trans (hc3 _ (by omega))).trans (rowCells_at hx).2
              have ck:=cells_of (keep_blk hB2 KR.out)
              have l1:g3<wr.heap.size:=by omega
              have l2:=lt_of (keep_blk hB2 KR.out)
              have j1:decide ((j:Int)<(out.length:Int))=true:=by simpa using hj
              have j2:(j:Int)<(out.length:Int):=by omega
              have E5:=Lib.hid (step_wrap j 500 (by omega) (by omega))
              have hlen1:=H40.out x.1
              rw [getD_at ht1] at hlen1
              have hless:Hid (lessL (decide (x.1<d)) (t1.drop x.2) (t.drop a)=refLess ts x (d,a)):=Lib.hid (by unfold refLess;rw [getD_at ht1,getD_at ht])
              clear hc3
              go_wp2_with fail
              refine wp_region_noPanic ?_
              refine wp_region_held_drew (S:=fun v=>Below wr.heap.size wr v∧(wr.heap.size≤v.heap.size)∧ ∀b o,b<wr.heap.size→v.cell? ⟨b,o,none⟩=wr.cell? ⟨b,o,none⟩) (by kernel_rfl) (HeldB.start wr) (fun hHeld=> ?_)
              have hB_d:Below wr.heap.size wr wr.drew:=(Below.refl _ _).drew
              generalize wr.drew=wrd at hHeld hB_d⊢
              refine ta 0 hHeld ?_
              refine ta 1 hHeld ?_
              refine ta 2 hHeld ?_
              refine ta 3 hHeld ?_
              refine ta 4 hHeld ?_
              refine ta 5 hHeld ?_
              refine ta 6 hHeld ?_
              refine ta 7 hHeld ?_
              refine ta 8 hHeld ?_
              refine ta 9 hHeld ?_
              refine ta 10 hHeld ?_
              refine rd 11 rfl fun K hK=> ?_
              go_simp
              refine (less_calls _ ts x.1 x.2 d a t1 t ht1 hx2 ht hla (by omega) _ hless.out _ (HK.out.below (below_step (below_step HBV.out hB2) hB_d))).mono ?_
              rintro e6 W6 ⟨rfl,hb6⟩
              refine ho hK (HeldB.call hHeld hb6) fun hHeld=> ?_
              clear hK K
              have hBX:Below V.heap.size V W6:=below_step hB2 (below_step hB_d hb6)
              cases hR:refLess ts x (d,a) with
              | true=>
                have Hpre2:Hid (∀i y,i<j+1→out[i]? =some y→refLess ts y (d,a)=true):=Lib.hid (fun i y hi hy=>by
                  rcases Nat.lt_or_ge i j with h|h
                  · exact Hpre.out i y h hy
                  · obtain rfl:i=j:=by omega
                    rw [hx] at hy;cases hy;exact hR)
                refine ta 12 hHeld ?_
                refine wpAnyH_done (by kernel_rfl) ?_ _
                refine NoPanic.normal ?_
                clear c1 c2 ck hHeld Hpre
                go_wp2_with fail
                go_roundg k3
                case measure=>omega
                case rel=>exact ⟨j+1,by first|rfl|(rw [E5.out];rfl),by omega,Hpre2,hBX⟩
              | false=>
                have Hat:Hid (refAt ts out (d,a)=j):=Lib.hid (refAt_of (by omega) Hpre.out (fun y hy=>by rw [hx] at hy;cases hy;exact hR))
                refine ta 12 hHeld ?_
                refine wpAnyH_done (by kernel_rfl) ?_ _
                refine NoPanic.normal ?_
                clear c1 c2 ck hHeld Hpre hB_d hb6
                go_wp2_with fail
                have ownX:=own_below HownV.out hBX
                have krX:=keep_blk hBX KR.out
                have ckX:=cells_of krX
                have lkX:=lt_of krX
                have q0:out.length≤c3:=own_cap HownV.out
                have q1:j≤c3:=by omega
                have q2:j≤out.length:=by omega
                refine wp_region_noPanic ?_
                refine wp_region_held_drew (S:=fun v=>Below W6.heap.size W6 v∧(W6.heap.size≤v.heap.size)∧ ∀b o,b<W6.heap.size→v.cell? ⟨b,o,none⟩=W6.cell? ⟨b,o,none⟩) (by kernel_rfl) (HeldB.start W6) (fun hHeld=> ?_)
                have hB_d:Below W6.heap.size W6 W6.drew:=(Below.refl _ _).drew
                generalize W6.drew=W6d at hHeld hB_d⊢
                refine ta 0 hHeld ?_
                refine ta 1 hHeld ?_
                refine ta 2 hHeld ?_
                refine ta 4 hHeld ?_
                refine ta 7 hHeld ?_
                refine ta 8 hHeld ?_
                refine ta 9 hHeld ?_
                have ownD:=own_below ownX hB_d
                have hszX:=hBX.size
                have hszD:=hB_d.size
                skip
                refine wpAnyH_ready (rs:=[3,5]) (by kernel_rfl) (by simp) ?_
                refine ready_at rfl (fun K hK=> ?_) (ready_at rfl (fun K hK=> ?_) AllReadyH.nil)
                · refine step_moreN (by rfl) _ _ 80 (by rfl) (base:=W6.heap.size) (e:=86) (.agg #[.int .i64 0, .int .i64 0]) 2 16 (by omega) Tryz.underlying80 (by kernel_rfl) (by rfl) (v:= .slice none 0 0) (by rfl) (own_nil _ _ _ _) (by rfl) (by have:=(Rds.of_own (ownD)).part j q2;rw [rowCells_take] at this;exact this) (rowCells_one _) (nm:=j) (by omega) (by omega) (by omega) (hHeld.2.1) ?_
                  intro A4 c4 W7 hown7 hlow7 hkeep7
                  refine ho hK (HeldB.low hHeld hlow7) fun hHeld=> ?_
                  clear hK K
                  refine rd 5 rfl fun K hK=> ?_
                  go_simp
                  refine ho hK (HeldB.alloc hHeld _) fun hHeld=> ?_
                  clear hK K
                  refine rd 6 rfl fun K hK=> ?_
                  refine step_moreN (by rfl) _ _ 80 (by rfl) (base:=W6.heap.size) (e:=86) (.agg #[.int .i64 0, .int .i64 0]) 2 16 (by omega) Tryz.underlying80 (by kernel_rfl) (by rfl) (v:= .slice A4 j c4) (by rfl) (hown7.alloc _) (by rfl) (rds_one W7 #[.int .i64 (d:Int), .int .i64 (a:Int)] 86 2 rfl) (rowCells_one [(d,a)]) (nm:=j+1) (by omega) (by omega) (by omega) (hHeld.2.1) ?_
                  intro A5 c5 W8 hown8 hlow8 hkeep8
                  refine ho hK (HeldB.low hHeld hlow8) fun hHeld=> ?_
                  clear hK K
                  refine rd 10 rfl fun K hK=> ?_
                  refine step_moreN (by rfl) _ _ 80 (by rfl) (base:=W6.heap.size) (e:=86) (.agg #[.int .i64 0, .int .i64 0]) 2 16 (by omega) Tryz.underlying80 (by kernel_rfl) (by rfl) (v:= .slice A5 (j+1) c5) (by rfl) (hown8) (by rfl) (by have:=(Rds.of_own (own_below ownX hHeld.1)).behind (A':=if c3=j then some ⟨g3,0,none⟩ else some ⟨g3,j*2,none⟩) j (out.length - j) q2 (by omega) (fun h=>by first|(exfalso;omega)|(rw [if_neg (by omega)];simp [add_zero_off]));rw [rowCells_drop] at this;exact this) (rowCells_one _) (nm:=out.length+1) (by omega) (by omega) (by omega) (hHeld.2.1) ?_
                  intro A6 c6 W9 hown9 hlow9 hkeep9
                  refine ho hK (HeldB.low hHeld hlow9) fun hHeld=> ?_
                  clear hK K
                  have hfin:=hHeld.1
                  refine rd 11 rfl fun K hK=> ?_
                  go_simp
                  refine ho hK hHeld fun hHeld=> ?_
                  clear hK K
                  refine wpAnyH_done (by kernel_rfl) ?_ _
                  refine NoPanic.normal ?_
                  have HF:Hid (W9.ownsRow w.heap.size 86 2 (.slice A6 (out.length+1) c6) (refFold ts (upto ts d (a+1))).length (rowCells (refFold ts (upto ts d (a+1))))):=Lib.hid (by
                    rw [upto_snoc,refFold_snoc,←Hout.out,refIns_length]
                    unfold refIns
                    rw [Hat.out,rowCells_append,show (d,a)::out.drop j=[(d,a)]++out.drop j from rfl,rowCells_append,←List.append_assoc]
                    exact own_mono hown9 (by omega))
                  have HBF:=Lib.hid (below_step (below_step HBV.out hBX) hfin)
                  clear hown9 hlow9 hkeep9 hfin ownX ownD ckX
                  go_wp2_with fail
                  all_goals
                    go_roundg k2
                    case measure=>omega
                    case rel=>exact ⟨a+1,by first|rfl|(rw [E4.out];rfl),by omega,HF,HBF⟩
                · go_simp
                  refine ho hK (HeldB.alloc hHeld _) fun hHeld=> ?_
                  clear hK K
                  refine rd 3 rfl fun K hK=> ?_
                  refine step_moreN (by rfl) _ _ 80 (by rfl) (base:=W6.heap.size) (e:=86) (.agg #[.int .i64 0, .int .i64 0]) 2 16 (by omega) Tryz.underlying80 (by kernel_rfl) (by rfl) (v:= .slice none 0 0) (by rfl) (own_nil _ _ _ _) (by rfl) (by have:=(Rds.of_own (ownD.alloc (.cells #[.int .i64 (d:Int), .int .i64 (a:Int)] 86))).part j q2;rw [rowCells_take] at this;exact this) (rowCells_one _) (nm:=j) (by omega) (by omega) (by omega) (hHeld.2.1) ?_
                  intro A4 c4 W7 hown7 hlow7 hkeep7
                  refine ho hK (HeldB.low hHeld hlow7) fun hHeld=> ?_
                  clear hK K
                  refine rd 6 rfl fun K hK=> ?_
                  refine step_moreN (by rfl) _ _ 80 (by rfl) (base:=W6.heap.size) (e:=86) (.agg #[.int .i64 0, .int .i64 0]) 2 16 (by omega) Tryz.underlying80 (by kernel_rfl) (by rfl) (v:= .slice A4 j c4) (by rfl) (hown7) (by rfl) ((rds_one W6d #[.int .i64 (d:Int), .int .i64 (a:Int)] 86 2 rfl).below (hkeep7 _ (Nat.le_refl _) (by simp [Value.ownBlock]))) (rowCells_one [(d,a)]) (nm:=j+1) (by omega) (by omega) (by omega) (hHeld.2.1) ?_
                  intro A5 c5 W8 hown8 hlow8 hkeep8
                  refine ho hK (HeldB.low hHeld hlow8) fun hHeld=> ?_
                  clear hK K
                  refine rd 10 rfl fun K hK=> ?_
                  refine step_moreN (by rfl) _ _ 80 (by rfl) (base:=W6.heap.size) (e:=86) (.agg #[.int .i64 0, .int .i64 0]) 2 16 (by omega) Tryz.underlying80 (by kernel_rfl) (by rfl) (v:= .slice A5 (j+1) c5) (by rfl) (hown8) (by rfl) (by have:=(Rds.of_own (own_below ownX hHeld.1)).behind (A':=if c3=j then some ⟨g3,0,none⟩ else some ⟨g3,j*2,none⟩) j (out.length - j) q2 (by omega) (fun h=>by first|(exfalso;omega)|(rw [if_neg (by omega)];simp [add_zero_off]));rw [rowCells_drop] at this;exact this) (rowCells_one _) (nm:=out.length+1) (by omega) (by omega) (by omega) (hHeld.2.1) ?_
                  intro A6 c6 W9 hown9 hlow9 hkeep9
                  refine ho hK (HeldB.low hHeld hlow9) fun hHeld=> ?_
                  clear hK K
                  have hfin:=hHeld.1
                  refine rd 11 rfl fun K hK=> ?_
                  go_simp
                  refine ho hK hHeld fun hHeld=> ?_
                  clear hK K
                  refine wpAnyH_done (by kernel_rfl) ?_ _
                  refine NoPanic.normal ?_
                  have HF:Hid (W9.ownsRow w.heap.size 86 2 (.slice A6 (out.length+1) c6) (refFold ts (upto ts d (a+1))).length (rowCells (refFold ts (upto ts d (a+1))))):=Lib.hid (by
                    rw [upto_snoc,refFold_snoc,←Hout.out,refIns_length]
                    unfold refIns
                    rw [Hat.out,rowCells_append,show (d,a)::out.drop j=[(d,a)]++out.drop j from rfl,rowCells_append,←List.append_assoc]
                    exact own_mono hown9 (by omega))
                  have HBF:=Lib.hid (below_step (below_step HBV.out hBX) hfin)
                  clear hown9 hlow9 hkeep9 hfin ownX ownD ckX
                  go_wp2_with fail
                  all_goals
                    go_roundg k2
                    case measure=>omega
                    case rel=>exact ⟨a+1,by first|rfl|(rw [E4.out];rfl),by omega,HF,HBF⟩
            · obtain rfl:j=out.length:=by omega
              have j1:decide ((out.length:Int)<(out.length:Int))=false:=by simp
              have Hat:Hid (refAt ts out (d,a)=out.length):=Lib.hid (refAt_of (Nat.le_refl _) Hpre.out (fun y hy=>by simp at hy))
              clear Hpre
              go_wp2_with fail
              refine wp_region_noPanic ?_
              refine wp_region_held_drew (S:=fun v=>Below wr.heap.size wr v∧(wr.heap.size≤v.heap.size)∧ ∀b o,b<wr.heap.size→v.cell? ⟨b,o,none⟩=wr.cell? ⟨b,o,none⟩) (by kernel_rfl) (HeldB.start wr) (fun hHeld=> ?_)
              have hB_d:Below wr.heap.size wr wr.drew:=(Below.refl _ _).drew
              generalize wr.drew=wrd at hHeld hB_d⊢
              refine ta 0 hHeld ?_
              refine ta 1 hHeld ?_
              refine ta 2 hHeld ?_
              refine ta 3 hHeld ?_
              refine ta 4 hHeld ?_
              refine tno 5 hHeld ?_
              refine tno 6 hHeld ?_
              refine tno 7 hHeld ?_
              refine tno 8 hHeld ?_
              refine tno 9 hHeld ?_
              refine tno 10 hHeld ?_
              refine tno 11 hHeld ?_
              refine ta 12 hHeld ?_
              refine wpAnyH_done (by kernel_rfl) ?_ _
              refine NoPanic.normal ?_
              have hBX:Below V.heap.size V wrd:=below_step hB2 hB_d
              clear hHeld hB_d
              go_wp2_with fail
              have ownX:=own_below HownV.out hBX
              have krX:=keep_blk hBX KR.out
              have ckX:=cells_of krX
              have lkX:=lt_of krX
              have q0:out.length≤c3:=own_cap HownV.out
              have q1:out.length≤c3:=by omega
              have q2:out.length≤out.length:=by omega
              refine wp_region_noPanic ?_
              refine wp_region_held_drew (S:=fun v=>Below wrd.heap.size wrd v∧(wrd.heap.size≤v.heap.size)∧ ∀b o,b<wrd.heap.size→v.cell? ⟨b,o,none⟩=wrd.cell? ⟨b,o,none⟩) (by kernel_rfl) (HeldB.start wrd) (fun hHeld=> ?_)
              have hB_d:Below wrd.heap.size wrd wrd.drew:=(Below.refl _ _).drew
              generalize wrd.drew=wrdd at hHeld hB_d⊢
              refine ta 0 hHeld ?_
              refine ta 1 hHeld ?_
              refine ta 2 hHeld ?_
              refine ta 4 hHeld ?_
              refine ta 7 hHeld ?_
              refine ta 8 hHeld ?_
              refine ta 9 hHeld ?_
              have ownD:=own_below ownX hB_d
              have hszX:=hBX.size
              have hszD:=hB_d.size
              skip
              refine wpAnyH_ready (rs:=[3,5]) (by kernel_rfl) (by simp) ?_
              refine ready_at rfl (fun K hK=> ?_) (ready_at rfl (fun K hK=> ?_) AllReadyH.nil)
              · refine step_moreN (by rfl) _ _ 80 (by rfl) (base:=wrd.heap.size) (e:=86) (.agg #[.int .i64 0, .int .i64 0]) 2 16 (by omega) Tryz.underlying80 (by kernel_rfl) (by rfl) (v:= .slice none 0 0) (by rfl) (own_nil _ _ _ _) (by rfl) (by have:=(Rds.of_own (ownD)).part out.length q2;rw [rowCells_take] at this;exact this) (rowCells_one _) (nm:=out.length) (by omega) (by omega) (by omega) (hHeld.2.1) ?_
                intro A4 c4 W7 hown7 hlow7 hkeep7
                refine ho hK (HeldB.low hHeld hlow7) fun hHeld=> ?_
                clear hK K
                refine rd 5 rfl fun K hK=> ?_
                go_simp
                refine ho hK (HeldB.alloc hHeld _) fun hHeld=> ?_
                clear hK K
                refine rd 6 rfl fun K hK=> ?_
                refine step_moreN (by rfl) _ _ 80 (by rfl) (base:=wrd.heap.size) (e:=86) (.agg #[.int .i64 0, .int .i64 0]) 2 16 (by omega) Tryz.underlying80 (by kernel_rfl) (by rfl) (v:= .slice A4 out.length c4) (by rfl) (hown7.alloc _) (by rfl) (rds_one W7 #[.int .i64 (d:Int), .int .i64 (a:Int)] 86 2 rfl) (rowCells_one [(d,a)]) (nm:=out.length+1) (by omega) (by omega) (by omega) (hHeld.2.1) ?_
                intro A5 c5 W8 hown8 hlow8 hkeep8
                refine ho hK (HeldB.low hHeld hlow8) fun hHeld=> ?_
                clear hK K
                refine rd 10 rfl fun K hK=> ?_
                refine step_moreN (by rfl) _ _ 80 (by rfl) (base:=wrd.heap.size) (e:=86) (.agg #[.int .i64 0, .int .i64 0]) 2 16 (by omega) Tryz.underlying80 (by kernel_rfl) (by rfl) (v:= .slice A5 (out.length+1) c5) (by rfl) (hown8) (by rfl) (by have:=(Rds.of_own (own_below ownX hHeld.1)).behind (A':=if c3=out.length then A3 else A3.map (·.add (out.length*2))) out.length 0 q2 (by omega) (fun h=>by first|(exfalso;omega)|(rw [if_neg (by omega)];simp [add_zero_off]));rw [rowCells_drop] at this;exact this) (rowCells_one _) (nm:=out.length+1) (by omega) (by omega) (by omega) (hHeld.2.1) ?_
                intro A6 c6 W9 hown9 hlow9 hkeep9
                refine ho hK (HeldB.low hHeld hlow9) fun hHeld=> ?_
                clear hK K
                have hfin:=hHeld.1
                refine rd 11 rfl fun K hK=> ?_
                go_simp
                refine ho hK hHeld fun hHeld=> ?_
                clear hK K
                refine wpAnyH_done (by kernel_rfl) ?_ _
                refine NoPanic.normal ?_
                have HF:Hid (W9.ownsRow w.heap.size 86 2 (.slice A6 (out.length+1) c6) (refFold ts (upto ts d (a+1))).length (rowCells (refFold ts (upto ts d (a+1))))):=Lib.hid (by
                  rw [upto_snoc,refFold_snoc,←Hout.out,refIns_length]
                  unfold refIns
                  rw [Hat.out,rowCells_append,show (d,a)::out.drop out.length=[(d,a)]++out.drop out.length from rfl,rowCells_append,←List.append_assoc]
                  exact own_mono hown9 (by omega))
                have HBF:=Lib.hid (below_step (below_step HBV.out hBX) hfin)
                clear hown9 hlow9 hkeep9 hfin ownX ownD ckX
                go_wp2_with fail
                all_goals
                  go_roundg k2
                  case measure=>omega
                  case rel=>exact ⟨a+1,by first|rfl|(rw [E4.out];rfl),by omega,HF,HBF⟩
              · go_simp
                refine ho hK (HeldB.alloc hHeld _) fun hHeld=> ?_
                clear hK K
                refine rd 3 rfl fun K hK=> ?_
                refine step_moreN (by rfl) _ _ 80 (by rfl) (base:=wrd.heap.size) (e:=86) (.agg #[.int .i64 0, .int .i64 0]) 2 16 (by omega) Tryz.underlying80 (by kernel_rfl) (by rfl) (v:= .slice none 0 0) (by rfl) (own_nil _ _ _ _) (by rfl) (by have:=(Rds.of_own (ownD.alloc (.cells #[.int .i64 (d:Int), .int .i64 (a:Int)] 86))).part out.length q2;rw [rowCells_take] at this;exact this) (rowCells_one _) (nm:=out.length) (by omega) (by omega) (by omega) (hHeld.2.1) ?_
                intro A4 c4 W7 hown7 hlow7 hkeep7
                refine ho hK (HeldB.low hHeld hlow7) fun hHeld=> ?_
                clear hK K
                refine rd 6 rfl fun K hK=> ?_
                refine step_moreN (by rfl) _ _ 80 (by rfl) (base:=wrd.heap.size) (e:=86) (.agg #[.int .i64 0, .int .i64 0]) 2 16 (by omega) Tryz.underlying80 (by kernel_rfl) (by rfl) (v:= .slice A4 out.length c4) (by rfl) (hown7) (by rfl) ((rds_one wrdd #[.int .i64 (d:Int), .int .i64 (a:Int)] 86 2 rfl).below (hkeep7 _ (Nat.le_refl _) (by simp [Value.ownBlock]))) (rowCells_one [(d,a)]) (nm:=out.length+1) (by omega) (by omega) (by omega) (hHeld.2.1) ?_
                intro A5 c5 W8 hown8 hlow8 hkeep8
                refine ho hK (HeldB.low hHeld hlow8) fun hHeld=> ?_
                clear hK K
                refine rd 10 rfl fun K hK=> ?_
                refine step_moreN (by rfl) _ _ 80 (by rfl) (base:=wrd.heap.size) (e:=86) (.agg #[.int .i64 0, .int .i64 0]) 2 16 (by omega) Tryz.underlying80 (by kernel_rfl) (by rfl) (v:= .slice A5 (out.length+1) c5) (by rfl) (hown8) (by rfl) (by have:=(Rds.of_own (own_below ownX hHeld.1)).behind (A':=if c3=out.length then A3 else A3.map (·.add (out.length*2))) out.length 0 q2 (by omega) (fun h=>by first|(exfalso;omega)|(rw [if_neg (by omega)];simp [add_zero_off]));rw [rowCells_drop] at this;exact this) (rowCells_one _) (nm:=out.length+1) (by omega) (by omega) (by omega) (hHeld.2.1) ?_
                intro A6 c6 W9 hown9 hlow9 hkeep9
                refine ho hK (HeldB.low hHeld hlow9) fun hHeld=> ?_
                clear hK K
                have hfin:=hHeld.1
                refine rd 11 rfl fun K hK=> ?_
                go_simp
                refine ho hK hHeld fun hHeld=> ?_
                clear hK K
                refine wpAnyH_done (by kernel_rfl) ?_ _
                refine NoPanic.normal ?_
                have HF:Hid (W9.ownsRow w.heap.size 86 2 (.slice A6 (out.length+1) c6) (refFold ts (upto ts d (a+1))).length (rowCells (refFold ts (upto ts d (a+1))))):=Lib.hid (by
                  rw [upto_snoc,refFold_snoc,←Hout.out,refIns_length]
                  unfold refIns
                  rw [Hat.out,rowCells_append,show (d,a)::out.drop out.length=[(d,a)]++out.drop out.length from rfl,rowCells_append,←List.append_assoc]
                  exact own_mono hown9 (by omega))
                have HBF:=Lib.hid (below_step (below_step HBV.out hBX) hfin)
                clear hown9 hlow9 hkeep9 hfin ownX ownD ckX
                go_wp2_with fail
                all_goals
                  go_roundg k2
                  case measure=>omega
                  case rel=>exact ⟨a+1,by first|rfl|(rw [E4.out];rfl),by omega,HF,HBF⟩
        · obtain rfl:a=t.length+1:=by omega
          have m1:decide (((t.length+1:Nat):Int)≤(t.length:Int))=false:=by simp;omega
          have hown:=Hown.out
          rw [←hgd,upto_next] at hown
          have HO:=Lib.hid hown;clear hown Hown
          go_wp2_with fail
          go_roundg k
          case measure=>omega
          case rel=>exact ⟨d+1,by first|rfl|(rw [E3.out];rfl),by omega,HO,HB⟩
    · have hi:d=ts.length:=by omega
      have n1:decide ((d:Int)<(ts.length:Int))=false:=by simpa using hlt
      have hown:=Hown.out
      rw [hi] at hown
      have HO:=Lib.hid hown;clear hown Hown
      go_wp2_with fail
      go_ret
      exact ⟨u3,rfl,HO.out,HB.out⟩
end
section
open Go.RowKit Go.Sort Go.Shelf
attribute [local go_sem ↓] Go.wp_at_zero Go.wp_at_succ
attribute [local go_sem] str_len
def encR {ts:List (List UInt8)} (x:RowT ts):List Value:=[.int .i64 (x.1.1:Int), .int .i64 (x.1.2:Int)]
end
section
open Go.RowKit Go.Sort Go.Shelf
attribute [local go_sem ↓] Go.wp_at_zero Go.wp_at_succ
attribute [local go_sem] str_len
end
section
open Go.RowKit
attribute [local go_sem ↓] Go.wp_at_zero Go.wp_at_succ
attribute [local go_sem] str_len
theorem sorted_calls (v : Value) (ts : List (List UInt8)) (hn : ts.length ≤ 50000) (w : World) (h : Rk w 1 v ts.length (ts.map strOf)) :
    Calls Tryz.prog 56 #[v] w fun e w'=> ∃v',e= .returned v'∧w'.ownsRow w.heap.size 86 2 v' (refSorted ts).length (rowCells (refSorted ts))∧Below w.heap.size w w':=by
  unfold refSorted
  cases hrt:refRight ts with
  | true=>rw [if_pos rfl];exact sorted_walk v ts hrt w h
  | false=>
    rw [if_neg (by decide)]
    have HK:=Lib.hid h
    obtain ⟨h1,A,cap,rfl,h2⟩:=h
    clear h1 h2
    go_enter Tryz.func56,Tryz.ntmps56
    go_wp2_with fail
    refine cg fun V0 hV_V0=> ?_
    have hB:=Below.refl w.heap.size w
    refine neb0 hV_V0 hB ?_;clear hB;intro z_V0 hB
    clear hV_V0
    refine rC (rright_calls _ ts hn _ (HK.out.below hB)) fun W0 hb_W0=> ?_
    refine beb0 hb_W0 hB ?_;clear hb_W0 hB;intro z_W0 hB
    rw [hrt]
    go_wp2_with fail
    go_ret
    exact ⟨_,rfl,own_nil _ _ _ _,hB⟩
def intCells (l:List Int):List Value:=l.map fun x=> .int .i64 x
theorem step_id (j n:Nat) (h:j≤n) (hn:n≤50000):wrap64 (j:Int)=(j:Int):=IntWalk.wrap64_in _ (by omega)
theorem symbols_calls (v : Value) (ts : List (List UInt8)) (hn : ts.length ≤ 50000) (hn2 : ∀ t, t ∈ ts → t.length ≤ 50000) (w : World) (h : Rk w 1 v ts.length (ts.map strOf)) :
    Calls Tryz.prog 31 #[v] w fun e w'=> ∃v',e= .returned v'∧w'.ownsRow w.heap.size 3 1 v' (refSorted ts).length (intCells ((refSorted ts).map (symOf ts)))∧Below w.heap.size w w':=by
  obtain ⟨R,hR⟩: ∃R,R=refSorted ts:=⟨_,rfl⟩
  rw [←hR]
  have HK:=Lib.hid h
  obtain ⟨h1,A,cap,rfl,h2⟩:=h
  have hval: ∀x,x∈R→ ∃t,ts[x.1]? =some t∧x.2≤t.length:=fun x hx=>sorted_valid (hR▸hx)
  have hsm:R.length≤500:=by rw [hR];exact sorted_small ts
  have Hval:=Lib.hid hval;have HR:=Lib.hid hR
  clear h1 h2 hval hR
  go_enter Tryz.func31,Tryz.ntmps31
  go_wp2_with fail
  refine cg fun V0 hV_V0=> ?_
  have hB:=Below.refl w.heap.size w
  refine neb0 hV_V0 hB ?_;clear hB;intro z_V0 hB
  clear hV_V0
  refine (sorted_calls _ ts hn _ (HK.out.below hB)).mono ?_
  rintro e1 W1 ⟨v1,rfl,hown1,hb1⟩
  have hB1:=below_step hB hb1
  rw [←HR.out] at hown1
  obtain ⟨-,A1,c1,rfl,hx1⟩:=Rx.of_own hown1
  have HX:=Lib.hid (Rk.of_own hown1);have HB1:=Lib.hid hB1
  have hsz1:=hB1.size
  clear hown1 hb1 hB hB1 hx1
  go_wp2_with fail
  go_loopg [4,5] R.length (fun k p q wr=> ∃i:Nat,q= .int .i64 (i:Int)∧i+k=R.length∧Hid (wr.ownsRow W1.heap.size 3 1 p i (intCells ((R.take i).map (symOf ts))))∧Hid (Below W1.heap.size W1 wr))
  case atStart=>exact ⟨0,rfl,by omega,Lib.hid (own_nil _ _ _ _),Lib.hid (Below.refl _ _)⟩
  case round=>
    obtain ⟨i,rfl,hk,Hown,HB⟩:=hrel
    by_cases hlt:i<R.length
    · obtain ⟨k,rfl⟩: ∃k,gk=k+1:=⟨gk - 1,by omega⟩
      obtain ⟨x,hx⟩:=at_some hlt
      obtain ⟨t,ht,hxt⟩:=Hval.out x (List.mem_of_getElem? hx)
      obtain ⟨-,A',cap',hv,h2⟩:=HX.out
      obtain ⟨g1,cs1,T1,rfl,kg1',hcs1⟩:=h2 (by omega)
      have kg1:=keep_blk HB.out kg1'
      have w1a:=cells_of kg1'
      have w1l:=lt_of kg1'
      obtain ⟨rfl, -,rfl⟩:=Value.slice.inj hv
      have c1a:cs1[i*2]? =some (.int .i64 (x.1:Int)):=(hcs1 _ (by omega)).trans (rowCells_at hx).1
      have c1b:cs1[i*2+1]? =some (.int .i64 (x.2:Int)):=(hcs1 _ (by omega)).trans (rowCells_at hx).2
      clear h2 hv hcs1
      have htake:Hid (intCells ((R.take (i+1)).map (symOf ts))=intCells ((R.take i).map (symOf ts))++[.int .i64 (symOf ts x)]):=Lib.hid (by
        unfold intCells
        rw [List.take_succ_eq_append_getElem hlt,List.map_append,List.map_append,(List.getElem_eq_iff hlt).2 hx];rfl)
      have n1:decide ((i:Int)<(R.length:Int))=true:=by simpa using hlt
      have n2:(i:Int)<(R.length:Int):=by omega
      have E3:=Lib.hid (step_wrap i 500 (by omega) (by omega))
      have hw1:=HB.out.size
      by_cases h0:x.2=0
      · have hs:Hid (symOf ts x=0):=Lib.hid (by unfold symOf;rw [if_pos h0])
        have d0:((x.2:Int)==0)=true:=by rw [h0];rfl
        clear h0 hxt
        have c_kg1:=f3 kg1;have l_kg1wr:=lt_of kg1
        go_wp2_with (at_builtin;refine wpList_push _ (by rfl) _ _ 44 (by rfl) (W1.heap.size) 3 (.int .i64 0) 1 8 Tryz.underlying44 (by kernel_rfl) (by rfl) (by omega) _ _ _ (by rfl) Hown.out _ (by rfl) (by rfl) (by simp [Value.oneCell']) (by unfold maxLen;omega) (by omega) (by omega) ?_;intro g_W c_W W5 hown_W hlow_W hlt_W)
        go_wp2_with fail
        go_roundg k
        case measure=>omega
        case rel=>exact ⟨i+1,by first|rfl|(rw [E3.out];rfl),by omega,Lib.hid (by rw [htake.out,hs.out];exact hown_W),Lib.hid (low_step HB.out (Nat.le_refl _) hlow_W)⟩
      · obtain ⟨j,hj⟩: ∃j:Nat,x.2=j+1:=⟨x.2 - 1,by omega⟩
        obtain ⟨b,hb⟩:=at_some (show j<t.length by omega)
        have htl:=hn2 t (List.mem_of_getElem? ht)
        have hs:Hid (symOf ts x=(b.toNat:Int)+1):=Lib.hid (by unfold symOf;rw [if_neg h0,getD_at ht,hj];simp [List.getD,hb])
        have d0:((x.2:Int)==0)=false:=by rw [beq_eq_false_iff_ne];omega
        obtain ⟨hd, -⟩:=List.getElem?_eq_some_iff.1 ht
        obtain ⟨-,A2,cap2,hv2,h3⟩:=HK.out.below HB1.out
        obtain ⟨g2,cs2,T2,rfl,kg2',hcs2⟩:=h3 (by omega)
        have kg2:=keep_blk HB.out kg2'
        have w2a:=cells_of kg2'
        have w2l:=lt_of kg2'
        obtain ⟨rfl, -,rfl⟩:=Value.slice.inj hv2
        have c2a:cs2[x.1]? =some (strOf t):=by rw [hcs2 _ (by omega),List.getElem?_map,ht];rfl
        have n3:(x.1:Int)<(ts.length:Int):=by omega
        have hix:=str_index t j b hb
        have e6:Hid (wrap64 ((x.2:Int) - 1)=(j:Int)):=Lib.hid (by rw [hj,IntWalk.wrap64_in _ (by omega)];omega)
        have hb8:=b.toNat_lt
        have e7:wrap64 ((b.toNat:Int)+1)=(b.toNat:Int)+1:=IntWalk.wrap64_in _ (by omega)
        have E7:=Lib.hid e7;clear e7
        have hxj:(x.2:Int)=(j:Int)+1:=by omega
        rw [hxj] at c1b d0
        have e9:wrap64 (j:Int)=(j:Int):=step_id j t.length (by omega) (by omega)
        have E9:=Lib.hid e9;clear e9
        have E10:=Lib.hid (step_id b.toNat 256 (by omega) (by omega))
        have e8:wrap64 ((j:Int)+1 - 1)=(j:Int):=by rw [show (j:Int)+1 - 1=(j:Int) by omega];exact step_id j t.length (by omega) (by omega)
        clear h0 hxt h3 hv2 hcs2 hb e6 hxj
        have c_kg1:=f3 kg1;have l_kg1wr:=lt_of kg1
        have c_kg2:=f3 kg2;have l_kg2wr:=lt_of kg2
        go_wp2_with fail
        refine wp_region_noPanic ?_
        refine wp_region_held_drew (S:=fun v=>Below W1.heap.size W1 v∧(W1.heap.size≤v.heap.size)∧ ∀b o,b<W1.heap.size→v.cell? ⟨b,o,none⟩=W1.cell? ⟨b,o,none⟩) (by kernel_rfl) (HeldB.of HB.out.drew) (fun hHeld=> ?_)
        have hB_d:Below wr.heap.size wr wr.drew:=(Below.refl _ _).drew
        generalize wr.drew=wrd at hHeld hB_d⊢
        have e9:=E9.out
        have e7:=E7.out
        have e10:wrap64 (b.toNat:Int)=(b.toNat:Int):=E10.out
        refine ta 0 hHeld ?_
        refine ta 1 hHeld ?_
        refine ta 2 hHeld ?_
        refine ta 3 hHeld ?_
        refine ta 4 hHeld ?_
        refine ta 5 hHeld ?_
        refine ta 6 hHeld ?_
        refine ta 7 hHeld ?_
        refine ta 8 hHeld ?_
        refine ta 9 hHeld ?_
        refine ta 10 hHeld ?_
        refine ta 11 hHeld ?_
        refine ta 12 hHeld ?_
        refine ta 13 hHeld ?_
        refine ta 14 hHeld ?_
        refine ta 15 hHeld ?_
        refine ta 16 hHeld ?_
        refine ta 17 hHeld ?_
        simp only [e7]
        clear e7 e8 e9 e10
        refine rd 18 rfl fun K hK=> ?_
        go_simp
        refine ho hK (HeldB.alloc hHeld _) fun hHeld=> ?_
        clear hK K
        refine rd 19 rfl fun K hK=> ?_
        refine step_moreN (by rfl) _ _ 44 (by rfl) (base:=W1.heap.size) (e:=3) (.int .i64 0) 1 8 (by omega) Tryz.underlying44 (by kernel_rfl) (by rfl) (v:=u4) (by rfl) ((own_below Hown.out hB_d).alloc _) (by rfl) (rds_one wrd #[.int .i64 ((b.toNat:Int)+1)] 3 1 rfl) (by simp [Value.oneCell']) (nm:=i+1) rfl (by omega) (by omega) (by rw [siz_alloc];have:=hB_d.size;omega) ?_
        intro A5 c5 W8 hown8 hlow8 hkeep8
        have HB8:=Lib.hid (low_step (hHeld.1) (Nat.le_refl _) hlow8)
        refine ho hK (HeldB.of HB8.out) fun hHeld=> ?_
        clear hK K
        refine rd 20 rfl fun K hK=> ?_
        go_simp
        refine ho hK hHeld fun hHeld=> ?_
        clear hK K
        refine wpAnyH_done (by kernel_rfl) ?_ _
        refine NoPanic.normal ?_
        have HO8:Hid (W8.ownsRow W1.heap.size 3 1 (.slice A5 (i+1) c5) (i+1) (intCells ((R.take (i+1)).map (symOf ts)))):=Lib.hid (by rw [htake.out,hs.out];exact hown8)
        clear hown8 hlow8 hkeep8 w1a w2a hHeld
        go_wp2_with fail
        go_roundg k
        case measure=>omega
        case rel=>exact ⟨i+1,by first|rfl|(rw [E3.out];rfl),by omega,HO8,HB8⟩
    · have hi:i=R.length:=by omega
      have n1:decide ((i:Int)<(R.length:Int))=false:=by simpa using hlt
      have hown:=Hown.out
      rw [hi,List.take_length] at hown
      have HO:=Lib.hid (own_mono hown hsz1);clear hown Hown
      have HBF:=Lib.hid (below_step HB1.out HB.out)
      go_wp2_with fail
      go_ret
      exact ⟨u4,rfl,HO.out,HBF.out⟩
end
section
open Go.RowKit
attribute [local go_sem ↓] Go.wp_at_zero Go.wp_at_succ
theorem symof_calls (b:UInt8) (w:World):Calls Tryz.prog 126 #[.int .u8 (b.toNat:Int)] w fun e w'=>e= .returned (.int .i64 ((b.toNat:Int)+1))∧Below w.heap.size w w':=by
  have hb:=b.toNat_lt
  have e1:wrap64 ((b.toNat:Int)+1)=(b.toNat:Int)+1:=IntWalk.wrap64_in _ (by omega)
  have e2:wrap64 (b.toNat:Int)=(b.toNat:Int):=IntWalk.wrap64_in _ (by omega)
  go_enter Tryz.func126,Tryz.ntmps126
  go_wp2_with fail
  go_ret
  exact ⟨rfl,Below.refl _ _⟩
section
attribute [local go_sem] str_len
end
end
section
open Go.RowKit Go.Sort
attribute [local go_sem ↓] Go.wp_at_zero Go.wp_at_succ
attribute [local go_sem] lt_s2 lt_s3 lt_s4 str_len
variable {ap : Value} {O : Nat → Prop} {tb : Nat}
theorem pInsert_calls (x : Pt) (hp : 0 ≤ x.pos) (hp2 : x.pos ≤ x.text.length) (ht : x.text.length ≤ 50000) (hrate : 1 ≤ x.rate) (r : Int × Pt) (hr : x.insert = some r) (w : World) (hT : PB w tb ap x O) :
    Calls Tryz.prog 93 #[.pointer (some ⟨tb,0,none⟩)] w fun e w'=>e= .returned (.int .i64 r.1)∧DidP tb ap r.2 O w w':=by
  unfold Pt.insert at hr
  obtain ⟨b,h_b,h_r⟩:=Option.bind_eq_some_iff.1 hr
  have Hb:=Lib.hid h_b;clear h_b hr;have hr:=h_r;clear h_r
  obtain ⟨k,h_b,h_r⟩:=Option.bind_eq_some_iff.1 hr
  have Hk:=Lib.hid h_b;clear h_b hr;have hr:=h_r;clear h_r
  obtain ⟨r1,h_b,h_r⟩:=Option.bind_eq_some_iff.1 hr
  have Hr1:=Lib.hid h_b;clear h_b hr;have hr:=h_r;clear h_r
  obtain ⟨g1,e1,s1⟩:=r1
  have Hr:=Lib.hid hr;have Hp:=Lib.hid hp;have Hp2:=Lib.hid hp2;have Ht:=Lib.hid ht;have Hrate:=Lib.hid hrate
  clear hr ht hrate hp hp2
  go_enter Tryz.func93,Tryz.ntmps93
  have hA:=hT.hA
  have kt:=hT.blk
  have o_kt:=hT.no
  have c_kt:=f3 kt;have l_ktw:=lt_of kt
  go_upto_if 12 with fail
  refine wp_gen fun V hV_V=> ?_
  have hF:=Fr.refl ((oneX tb)) O w
  refine nef1 hV_V hA hF kt ?_;clear hA hF kt c_kt;intro z_V hA hF kt c_kt
  clear hV_V
  go_cut [3] from 8 (fun s3 wx=>s3= .int .i64 x.sym∧AP wx ap x.s O∧Fr (oneX tb) O O w wx∧wx.heap[tb]? =some (.cells #[ap, .int .i64 x.src, .int .i64 x.rate, .int .i64 x.id,strOf x.text, .int .i64 x.p.wave, .int .i64 x.p.marks, .int .i64 x.p.spots, .int .i64 x.p.table, .int .i64 x.pos, .int .i64 x.row, .bool x.begun, .bool x.over, .int .i64 x.root] 125 (0,0)))
  case first=>
    by_cases h0:0<x.pos
    · have d0:decide (0<x.pos)=true:=by simpa using h0
      obtain ⟨n,hn⟩: ∃n:Nat,x.pos=(n:Int)+1:=⟨(x.pos - 1).toNat,by omega⟩
      have hlt:n<x.text.length:=by have:=Hp2.out;omega
      obtain ⟨u,hu⟩: ∃u,x.text[n]? =some u:=⟨_,List.getElem?_eq_getElem hlt⟩
      have hsym:Hid (x.sym=(u.toNat:Int)+1):=Lib.hid (by
        unfold Pt.sym
        rw [if_pos h0,hn,show ((n:Int)+1 - 1).toNat=n by omega,List.getD_eq_getElem?_getD,hu];rfl)
      have e1:wrap64 (x.pos - 1)=(n:Int):=by rw [IntWalk.wrap64_in _ (by have:=Ht.out;omega)];omega
      have hix:=fun v=>str_index x.text n u hu v
      clear h0 hlt hn hu
      rw [d0]
      go_wp2_with fail
      refine wg fun V1 hV_V1=> ?_
      refine nef1 hV_V1 hA hF kt ?_;clear hA hF kt c_kt;intro z_V1 hA hF kt c_kt
      clear hV_V1
      refine dr (fun v=>Sm v V1 (tb)∧(V1.heap.size≤v.heap.size)∧AP v ap x.s O) ⟨fun _=>rfl,Nat.le_refl _,hA.drew⟩ fun V1d hV_V1d hHeld=> ?_
      have v_kt:=c_kt.1
      refine nef1 hV_V1d hA hF kt ?_;clear hA hF kt c_kt;intro z_V1d hA hF kt c_kt
      clear hV_V1d
      refine ta 0 hHeld ?_
      refine ta 1 hHeld ?_
      refine ta 2 hHeld ?_
      refine ta 3 hHeld ?_
      refine ta 4 hHeld ?_
      refine ta 5 hHeld ?_
      refine ta 6 hHeld ?_
      refine ta 7 hHeld ?_
      refine ta 8 hHeld ?_
      refine ta 9 hHeld ?_
      refine rd 10 rfl fun K hK=> ?_
      go_simp
      try simp only [IntWalk.i64_left]
      refine rC (symof_calls u _) fun W1 hb_W1=> ?_
      refine bef1 hb_W1 hA hF kt ?_;clear hb_W1 hA hF kt c_kt;intro z_W1 hA hF kt c_kt
      refine ho hK ⟨vv c_kt v_kt,by omega,hA⟩ fun hHeld=> ?_
      clear hK K
      refine rd 11 rfl fun K hK=> ?_
      go_simp
      refine ho hK hHeld fun hHeld=> ?_
      clear hK K
      refine wd ?_
      go_wp2_with fail
      go_meet
      exact ⟨by rw [hsym.out],hA,hF,kt⟩
    · have d0:decide (0<x.pos)=false:=by simpa using h0
      have hsym:Hid (x.sym=0):=Lib.hid (by unfold Pt.sym;rw [if_neg h0])
      clear h0
      rw [d0]
      go_wp2_with fail
      go_meet
      exact ⟨by rw [hsym.out],hA,hF,kt⟩
  case rest=>
    clear hA hF kt c_kt
    obtain ⟨rfl,hA,hF,kt⟩:=hcut
    have c_kt:=f3 kt;have l_ktwc:=lt_of kt
    go_wp2_with fail
    refine wg fun V2 hV_V2=> ?_
    refine nef1 hV_V2 hA hF kt ?_;clear hA hF kt c_kt;intro z_V2 hA hF kt c_kt
    clear hV_V2
    refine dr (fun v=>Sm v V2 (tb)∧(V2.heap.size≤v.heap.size)∧AP v ap x.s O) ⟨fun _=>rfl,Nat.le_refl _,hA.drew⟩ fun V2d hV_V2d hHeld=> ?_
    have v_kt:=c_kt.1
    refine nef1 hV_V2d hA hF kt ?_;clear hA hF kt c_kt;intro z_V2d hA hF kt c_kt
    clear hV_V2d
    refine ta 0 hHeld ?_
    refine ta 1 hHeld ?_
    refine ta 2 hHeld ?_
    refine ta 3 hHeld ?_
    refine ta 4 hHeld ?_
    refine ta 5 hHeld ?_
    refine ta 6 hHeld ?_
    refine ta 7 hHeld ?_
    refine ta 8 hHeld ?_
    refine ta 9 hHeld ?_
    refine ta 12 hHeld ?_
    refine ta 13 hHeld ?_
    refine ta 14 hHeld ?_
    refine ta 15 hHeld ?_
    refine ta 16 hHeld ?_
    refine ta 17 hHeld ?_
    refine ta 18 hHeld ?_
    refine ta 19 hHeld ?_
    refine ta 20 hHeld ?_
    refine ta 21 hHeld ?_
    refine ta 22 hHeld ?_
    refine ta 23 hHeld ?_
    refine ta 24 hHeld ?_
    refine ta 25 hHeld ?_
    refine rd 10 rfl fun K hK=> ?_
    go_simp
    try simp only [IntWalk.i64_left]
    refine rC (wBefore_calls _ _ b Hb.out _ hA) fun W2 hb_W2=> ?_
    refine bef1 hb_W2 hA hF kt ?_;clear hb_W2 hA hF kt c_kt;intro z_W2 hA hF kt c_kt
    refine ho hK ⟨vv c_kt v_kt,by omega,hA⟩ fun hHeld=> ?_
    clear hK K
    refine ta 11 hHeld ?_
    refine rd 26 rfl fun K hK=> ?_
    go_simp
    try simp only [IntWalk.i64_left]
    refine rC (wRank_calls _ _ _ k Hk.out _ hA) fun W3 hb_W3=> ?_
    refine bef1 hb_W3 hA hF kt ?_;clear hb_W3 hA hF kt c_kt;intro z_W3 hA hF kt c_kt
    refine ho hK ⟨vv c_kt v_kt,by omega,hA⟩ fun hHeld=> ?_
    clear hK K
    refine ta 27 hHeld ?_
    refine rd 28 rfl fun K hK=> ?_
    go_simp
    refine ho hK hHeld fun hHeld=> ?_
    clear hK K
    refine wd ?_
    go_wp2_with fail
    refine wg fun V3 hV_V3=> ?_
    refine nef1 hV_V3 hA hF kt ?_;clear hA hF kt c_kt;intro z_V3 hA hF kt c_kt
    clear hV_V3
    refine dr (fun v=>Sm v V3 (tb)∧(V3.heap.size≤v.heap.size)∧True) ⟨fun _=>rfl,Nat.le_refl _,trivial⟩ fun V3d hV_V3d hHeld=> ?_
    have v_kt:=c_kt.1
    refine nef1 hV_V3d hA hF kt ?_;clear hA hF kt c_kt;intro z_V3d hA hF kt c_kt
    clear hV_V3d
    refine ta 0 hHeld ?_
    refine ta 1 hHeld ?_
    refine ta 2 hHeld ?_
    refine ta 3 hHeld ?_
    refine ta 4 hHeld ?_
    refine ta 5 hHeld ?_
    refine ta 6 hHeld ?_
    refine ta 7 hHeld ?_
    refine ta 8 hHeld ?_
    refine ta 9 hHeld ?_
    refine ta 10 hHeld ?_
    refine ta 11 hHeld ?_
    refine ta 12 hHeld ?_
    refine ta 13 hHeld ?_
    refine rd 14 rfl fun K hK=> ?_
    go_simp
    try simp only [IntWalk.i64_left]
    refine wC (wInsert_calls x.s _ _ _ _ (g1,e1,s1) Hr1.out _ hA) fun W4 O1 hA_W4 hf_W4=> ?_
    refine wif1 hf_W4 hF kt o_kt ?_;clear hA hF kt o_kt c_kt hf_W4;intro z_W4 hF kt c_kt o_kt;have hA:=hA_W4;clear hA_W4
    refine ho hK ⟨vv c_kt v_kt,by omega,trivial⟩ fun hHeld=> ?_
    clear hK K
    refine ta 15 hHeld ?_
    refine ta 16 hHeld ?_
    refine ta 17 hHeld ?_
    refine rd 18 rfl fun K hK=> ?_
    go_simp
    refine ho hK hHeld fun hHeld=> ?_
    clear hK K
    refine rd 19 rfl fun K hK=> ?_
    go_simp
    refine ho hK hHeld fun hHeld=> ?_
    clear hK K
    refine wd ?_
    by_cases he1:e1=0
    · subst he1
      obtain ⟨s2,hs2⟩: ∃s2,s1.drop x.p.wave=s2:=⟨_,rfl⟩
      obtain ⟨p2,hp2⟩: ∃p2:Parts,(⟨g1,x.p.marks,x.p.spots,x.p.table⟩:Parts)=p2:=⟨_,rfl⟩
      have E1:x.swap 0 (g1,0,s1)=(0,{x with s:=s2,p:=p2}):=by rw [←hs2,←hp2];rfl
      have hr:=Hr.out
      rw [E1] at hr
      dsimp only at hr
      rw [if_pos rfl] at hr
      have HR2:=Lib.hid hr
      have hsw:=fun v hT=>pSwap_calls (ap:=ap) (O:=O1) (tb:=tb) x 0 (by omega) (g1,0,s1) v hT
      rw [E1] at hsw
      dsimp only at hsw
      clear E1 hr hs2 hp2 Hr Hr1
      go_wp2_with fail
      refine cg fun V5 hV_V5=> ?_
      refine nef1 hV_V5 hA hF kt ?_;clear hA hF kt c_kt;intro z_V5 hA hF kt c_kt
      clear hV_V5
      refine tC (hsw _ ⟨hA,kt,o_kt⟩) fun W5 O2 hT hf=> ?_
      refine ti0 hT.hA hT.blk hT.no hf hF ?_;clear hA hF kt c_kt o_kt hT hf;intro z_W5 hA hF kt c_kt o_kt
      clear hsw
      go_wp2_with fail
      refine wg fun V6 hV_V6=> ?_
      refine nef1 hV_V6 hA hF kt ?_;clear hA hF kt c_kt;intro z_V6 hA hF kt c_kt
      clear hV_V6
      have hr0: ¬x.rate=0:=by have:=Hrate.out;omega
      refine dr (fun v=>Sm v V6 (tb)∧(V6.heap.size≤v.heap.size)∧AP v ap s2 O2) ⟨fun _=>rfl,Nat.le_refl _,hA.drew⟩ fun V6d hV_V6d hHeld=> ?_
      have v_kt:=c_kt.1
      refine nef1 hV_V6d hA hF kt ?_;clear hA hF kt c_kt;intro z_V6d hA hF kt c_kt
      clear hV_V6d
      refine ta 0 hHeld ?_
      refine ta 1 hHeld ?_
      refine ta 2 hHeld ?_
      refine ta 3 hHeld ?_
      refine ta 4 hHeld ?_
      refine ta 5 hHeld ?_
      refine ta 6 hHeld ?_
      refine ta 7 hHeld ?_
      refine ta 8 hHeld ?_
      refine ta 9 hHeld ?_
      refine rd 10 rfl fun K hK=> ?_
      go_simp
      refine ho hK hHeld fun hHeld=> ?_
      clear hK K
      refine wd ?_
      have hmk:(x.pos.tmod x.rate==0)=decide (x.pos % x.rate=0):=by
        rw [Int.tmod_eq_emod_of_nonneg Hp.out]
        by_cases e:x.pos % x.rate=0
        · rw [decide_eq_true e];simpa using e
        · rw [decide_eq_false e];simpa using e
      have HMK:=Lib.hid hmk
      clear hr0 hmk
      go_upto_if 91 with fail
      rw [HMK.out]
      clear HMK
      obtain ⟨nx,hnx⟩: ∃nx,wrap64 (wrap64 (b+1)+k)=nx:=⟨_,rfl⟩
      rw [hnx] at HR2⊢
      obtain ⟨mk,hmk⟩: ∃mk,decide (x.pos % x.rate=0)=mk:=⟨_,rfl⟩
      rw [hmk]
      clear hnx
      go_cut [5,6] from 8 (fun s5 s6 wx=> ∃s3 p3 O3,Hid (({x with s:=s3,p:=p3}:Pt).mark nx mk=some r)∧AP wx ap s3 O3∧Fr (oneX tb) O O3 w wx∧wx.heap[tb]? =some (.cells #[ap, .int .i64 x.src, .int .i64 x.rate, .int .i64 x.id,strOf x.text, .int .i64 p3.wave, .int .i64 p3.marks, .int .i64 p3.spots, .int .i64 p3.table, .int .i64 x.pos, .int .i64 x.row, .bool x.begun, .bool x.over, .int .i64 x.root] 125 (0,0))∧ ¬O3 tb)
      case first=>
        cases mk with
        | false=>
          have hr:=HR2.out
          rw [if_neg (by simpa using hmk)] at hr
          have HR3:=Lib.hid hr
          clear hr
          go_wp2_with fail
          go_meet
          exact ⟨s2,p2,O2,HR3,hA,hF,kt,o_kt⟩
        | true=>
          have hr:=HR2.out
          rw [if_pos (by simpa using hmk)] at hr
          clear hmk HR2
          obtain ⟨j,h_b,h_r⟩:=Option.bind_eq_some_iff.1 hr
          have Hj:=Lib.hid h_b;clear h_b hr;have hr:=h_r;clear h_r
          obtain ⟨r2,h_b,h_r⟩:=Option.bind_eq_some_iff.1 hr
          have Hr2:=Lib.hid h_b;clear h_b hr;have hr:=h_r;clear h_r
          obtain ⟨g2,e2,s3⟩:=r2
          have HR3:=Lib.hid hr
          clear hr
          go_wp2_with fail
          refine wg fun V8 hV_V8=> ?_
          refine nef1 hV_V8 hA hF kt ?_;clear hA hF kt c_kt;intro z_V8 hA hF kt c_kt
          clear hV_V8
          refine dr (fun v=>Sm v V8 (tb)∧(V8.heap.size≤v.heap.size)∧True) ⟨fun _=>rfl,Nat.le_refl _,trivial⟩ fun V8d hV_V8d hHeld=> ?_
          have v_kt:=c_kt.1
          refine nef1 hV_V8d hA hF kt ?_;clear hA hF kt c_kt;intro z_V8d hA hF kt c_kt
          clear hV_V8d
          refine ta 0 hHeld ?_
          refine ta 1 hHeld ?_
          refine ta 2 hHeld ?_
          refine ta 3 hHeld ?_
          refine ta 4 hHeld ?_
          refine ta 5 hHeld ?_
          refine ta 6 hHeld ?_
          refine ta 7 hHeld ?_
          refine ta 8 hHeld ?_
          refine ta 9 hHeld ?_
          refine ta 10 hHeld ?_
          refine ta 11 hHeld ?_
          refine ta 12 hHeld ?_
          refine ta 13 hHeld ?_
          refine ta 14 hHeld ?_
          refine ta 15 hHeld ?_
          refine ta 16 hHeld ?_
          refine ta 17 hHeld ?_
          refine ta 18 hHeld ?_
          refine ta 19 hHeld ?_
          refine ta 20 hHeld ?_
          refine ta 21 hHeld ?_
          refine ta 23 hHeld ?_
          refine ta 24 hHeld ?_
          refine ta 25 hHeld ?_
          refine ta 26 hHeld ?_
          refine ta 27 hHeld ?_
          refine ta 28 hHeld ?_
          refine ta 29 hHeld ?_
          refine ta 30 hHeld ?_
          refine ta 31 hHeld ?_
          refine rd 22 rfl fun K hK=> ?_
          go_simp
          try simp only [IntWalk.i64_left]
          refine rC (bRank_calls _ _ j Hj.out _ hA) fun W8 hb_W8=> ?_
          refine bef1 hb_W8 hA hF kt ?_;clear hb_W8 hA hF kt c_kt;intro z_W8 hA hF kt c_kt
          refine ho hK ⟨vv c_kt v_kt,by omega,trivial⟩ fun hHeld=> ?_
          clear hK K
          refine rd 32 rfl fun K hK=> ?_
          go_simp
          try simp only [IntWalk.i64_left]
          refine wC (lInsert_calls _ _ (x.id,x.pos) (g2,e2,s3) Hr2.out _ hA) fun W9 O3 hA_W9 hf_W9=> ?_
          refine wif1 hf_W9 hF kt o_kt ?_;clear hA hF kt o_kt c_kt hf_W9;intro z_W9 hF kt c_kt o_kt;have hA:=hA_W9;clear hA_W9
          refine ho hK ⟨vv c_kt v_kt,by omega,trivial⟩ fun hHeld=> ?_
          clear hK K
          refine ta 33 hHeld ?_
          refine ta 34 hHeld ?_
          refine ta 35 hHeld ?_
          refine rd 36 rfl fun K hK=> ?_
          go_simp
          refine ho hK hHeld fun hHeld=> ?_
          clear hK K
          refine rd 37 rfl fun K hK=> ?_
          go_simp
          refine ho hK hHeld fun hHeld=> ?_
          clear hK K
          refine wd ?_
          by_cases he2:e2=0
          · subst he2
            obtain ⟨s4,hs4⟩: ∃s4,s3.drop p2.spots=s4:=⟨_,rfl⟩
            obtain ⟨p4,hp4⟩: ∃p4:Parts,(⟨p2.wave,p2.marks,g2,p2.table⟩:Parts)=p4:=⟨_,rfl⟩
            have E2:({x with s:=s2,p:=p2}:Pt).swap 2 (g2,0,s3)=(0,{x with s:=s4,p:=p4}):=by rw [←hs4,←hp4];rfl
            have hr:=HR3.out
            rw [E2] at hr
            dsimp only at hr
            rw [if_pos rfl] at hr
            have HR4:=Lib.hid hr
            have hsw:=fun v hT=>pSwap_calls (ap:=ap) (O:=O3) (tb:=tb) {x with s:=s2,p:=p2} 2 (by omega) (g2,0,s3) v hT
            rw [E2] at hsw
            dsimp only at hsw
            clear E2 hr hs4 hp4 HR3
            go_wp2_with fail
            refine cg fun V10 hV_V10=> ?_
            refine nef1 hV_V10 hA hF kt ?_;clear hA hF kt c_kt;intro z_V10 hA hF kt c_kt
            clear hV_V10
            refine tC (hsw _ ⟨hA,kt,o_kt⟩) fun W10 O4 hT hf=> ?_
            refine ti0 hT.hA hT.blk hT.no hf hF ?_;clear hA hF kt c_kt o_kt hT hf;intro z_W10 hA hF kt c_kt o_kt
            clear hsw
            go_wp2_with fail
            go_meet
            exact ⟨s4,p4,O4,HR4,hA,hF,kt,o_kt⟩
          · have E2:({x with s:=s2,p:=p2}:Pt).swap 2 (g2,e2,s3)=(e2,{x with s:=s3,p:=p2}):=by unfold Pt.swap;rw [if_neg he2]
            have hr:=HR3.out
            rw [E2] at hr
            dsimp only at hr
            rw [if_neg he2] at hr
            have d2:(e2 !=0)=true:=by simpa using he2
            have HR4:=Lib.hid (Option.some.inj hr)
            have hsw:=fun v hT=>pSwap_calls (ap:=ap) (O:=O3) (tb:=tb) {x with s:=s2,p:=p2} 2 (by omega) (g2,e2,s3) v hT
            rw [E2] at hsw
            dsimp only at hsw
            clear E2 hr HR3 he2
            go_wp2_with fail
            refine cg fun V10 hV_V10=> ?_
            refine nef1 hV_V10 hA hF kt ?_;clear hA hF kt c_kt;intro z_V10 hA hF kt c_kt
            clear hV_V10
            refine tC (hsw _ ⟨hA,kt,o_kt⟩) fun W10 O4 hT hf=> ?_
            refine ti0 hT.hA hT.blk hT.no hf hF ?_;clear hA hF kt c_kt o_kt hT hf;intro z_W10 hA hF kt c_kt o_kt
            clear hsw
            go_wp2_with fail
            go_ret
            rw [←HR4.out]
            exact ⟨rfl,O4,⟨hA,kt,o_kt⟩,hF⟩
      case rest=>
        clear hA hF kt c_kt HR2 hmk
        obtain ⟨s3,p3,O3,HM,hA,hF,kt,o_k3⟩:=hcut
        clear o_kt
        have o_kt:=o_k3
        clear o_k3
        have c_kt:=f3 kt;have l_ktwc:=lt_of kt
        have hm:=HM.out
        unfold Pt.mark at hm
        dsimp only at hm
        obtain ⟨r3,hr3,hm⟩:=Option.map_eq_some_iff.1 hm
        obtain ⟨g3,e3,s5⟩:=r3
        dsimp only at hm
        have Hr3:=Lib.hid hr3
        have hsw:=fun Oz v hT=>pSwap_calls (ap:=ap) (O:=Oz) (tb:=tb) {x with s:=s5,p:=p3,row:=nx,pos:=wrap64 (x.pos - 1)} 1 (by omega) (g3,e3,s5) v hT
        rw [hm] at hsw
        dsimp only at hsw
        clear hr3 hm HM
        go_wp2_with fail
        refine wg fun V11 hV_V11=> ?_
        refine nef1 hV_V11 hA hF kt ?_;clear hA hF kt c_kt;intro z_V11 hA hF kt c_kt
        clear hV_V11
        refine dr (fun v=>Sm v V11 (tb)∧(V11.heap.size≤v.heap.size)∧True) ⟨fun _=>rfl,Nat.le_refl _,trivial⟩ fun V11d hV_V11d hHeld=> ?_
        have v_kt:=c_kt.1
        refine nef1 hV_V11d hA hF kt ?_;clear hA hF kt c_kt;intro z_V11d hA hF kt c_kt
        clear hV_V11d
        refine ta 0 hHeld ?_
        refine ta 1 hHeld ?_
        refine ta 2 hHeld ?_
        refine ta 3 hHeld ?_
        refine ta 4 hHeld ?_
        refine ta 5 hHeld ?_
        refine ta 6 hHeld ?_
        refine ta 7 hHeld ?_
        refine ta 8 hHeld ?_
        refine ta 9 hHeld ?_
        refine ta 10 hHeld ?_
        refine ta 11 hHeld ?_
        refine ta 12 hHeld ?_
        refine ta 13 hHeld ?_
        refine rd 14 rfl fun K hK=> ?_
        go_simp
        try simp only [IntWalk.i64_left]
        refine wC (bInsert_calls _ _ mk (g3,e3,s5) Hr3.out _ hA) fun W11 O5 hA_W11 hf_W11=> ?_
        refine wif1 hf_W11 hF kt o_kt ?_;clear hA hF kt o_kt c_kt hf_W11;intro z_W11 hF kt c_kt o_kt;have hA:=hA_W11;clear hA_W11
        refine ho hK ⟨vv c_kt v_kt,by omega,trivial⟩ fun hHeld=> ?_
        clear hK K
        refine ta 15 hHeld ?_
        refine ta 16 hHeld ?_
        refine ta 17 hHeld ?_
        refine rd 18 rfl fun K hK=> ?_
        go_simp
        refine ho hK hHeld fun hHeld=> ?_
        clear hK K
        refine rd 19 rfl fun K hK=> ?_
        go_simp
        refine ho hK hHeld fun hHeld=> ?_
        clear hK K
        refine wd ?_
        go_wp2_with fail
        refine cg fun V12 hV_V12=> ?_
        refine nef1 hV_V12 hA hF kt ?_;clear hA hF kt c_kt;intro z_V12 hA hF kt c_kt
        clear hV_V12
        refine tC (hsw _ _ ⟨hA,kt,o_kt⟩) fun W12 O6 hT hf=> ?_
        refine ti0 hT.hA hT.blk hT.no hf hF ?_;clear hA hF kt c_kt o_kt hT hf;intro z_W12 hA hF kt c_kt o_kt
        clear hsw
        go_wp2_with fail
        go_ret
        exact ⟨rfl,O6,⟨hA,kt,o_kt⟩,hF⟩
    · have E1:x.swap 0 (g1,e1,s1)=(e1,{x with s:=s1}):=by unfold Pt.swap;rw [if_neg he1]
      have hr:=Hr.out
      rw [E1] at hr
      dsimp only at hr
      rw [if_neg he1] at hr
      have d2:(e1 !=0)=true:=by simpa using he1
      have HR4:=Lib.hid (Option.some.inj hr)
      have hsw:=fun v hT=>pSwap_calls (ap:=ap) (O:=O1) (tb:=tb) x 0 (by omega) (g1,e1,s1) v hT
      rw [E1] at hsw
      dsimp only at hsw
      clear E1 hr Hr he1
      go_wp2_with fail
      refine cg fun V5 hV_V5=> ?_
      refine nef1 hV_V5 hA hF kt ?_;clear hA hF kt c_kt;intro z_V5 hA hF kt c_kt
      clear hV_V5
      refine tC (hsw _ ⟨hA,kt,o_kt⟩) fun W5 O2 hT hf=> ?_
      refine ti0 hT.hA hT.blk hT.no hf hF ?_;clear hA hF kt c_kt o_kt hT hf;intro z_W5 hA hF kt c_kt o_kt
      clear hsw
      go_wp2_with fail
      go_ret
      rw [←HR4.out]
      exact ⟨rfl,O2,⟨hA,kt,o_kt⟩,hF⟩
end
section
open Go.RowKit Go.Sort
attribute [local go_sem ↓] Go.wp_at_zero Go.wp_at_succ
attribute [local go_sem] lt_s2 lt_s3 lt_s4 str_len
variable {ap : Value} {O : Nat → Prop} {tb : Nat}
structure PtOk (x:Pt):Prop where
  lo: -1≤x.pos
  hi:x.pos≤x.text.length
  len:x.text.length≤50000
  rate:1≤x.rate
theorem pStep_calls (x : Pt) (hok : PtOk x) (r : Bool × Int × Pt) (hr : x.step = some r) (w : World) (hT : PB w tb ap x O) :
    Calls Tryz.prog 41 #[.pointer (some ⟨tb,0,none⟩)] w fun e w'=>e= .returned (.tuple #[.bool r.1, .int .i64 r.2.1])∧DidP tb ap r.2.2 O w w':=by
  have Hr:=Lib.hid hr;clear hr
  go_enter Tryz.func41,Tryz.ntmps41
  go_wp2_with fail
  refine wp_scope_ghost 0 (fun n a' wr=> ∃e x1 O1,(PB wr tb ap x1 O1∧Fr (oneX tb) O O1 w wr∧Hid (Pt.asked (e,x1)=r))∧ ∃u1 u2 u3 u5 u6 u7 u8 u9 u10 u11 u12 u13 u14 u15 u16 u17 u18 u19 u20 u21 u22 u23 u24 u25 u26 u27 u28 u29 u30 u31 u32 u33 u34 u35 u36 u37 u38 u39 u40 u41 u42 u43 u44 u45 u46 u47 u48 u49 u50 u51 u52 u53 u54 u55 u56:Value,a'={tmps:= #[(.pointer (some ⟨tb,0,none⟩):Value),u1,u2,u3,(.int .i64 e:Value),u5,u6,u7,u8,u9,u10,u11,u12,u13,u14,u15,u16,u17,u18,u19,u20,u21,u22,u23,u24,u25,u26,u27,u28,u29,u30,u31,u32,u33,u34,u35,u36,u37,u38,u39,u40,u41,u42,u43,u44,u45,u46,u47,u48,u49,u50,u51,u52,u53,u54,u55,u56],defers:=[]}) (by rfl) ?first ?pass
  case first=>
    intro hrest
    clear hrest
    have hr:=Hr.out
    unfold Pt.step at hr
    have kt:=hT.blk
    cases hov:x.over with
    | true=>
      rw [hov,if_pos rfl] at hr
      cases hr
      rw [hov] at kt
      have c_kt:=f3 kt;have l_ktw:=lt_of kt
      go_wp2_with fail
      simp only [Exit.jump]
      go_ret2
      exact ⟨rfl,O,hT,Fr.refl _ _ _⟩
    | false=>
      rw [hov,if_neg (by decide)] at hr
      cases hb:x.begun with
      | false=>
        rw [hb,if_neg (by decide)] at hr
        obtain ⟨r1,hr1,rfl⟩:=Option.map_eq_some_iff.1 hr
        have Hr1:=Lib.hid hr1
        clear hr hr1 Hr
        rw [hov,hb] at kt
        have c_kt:=f3 kt;have l_ktw:=lt_of kt
        go_wp2_with fail
        refine (pBegin_calls x r1 Hr1.out _ hT).mono ?_
        rintro e1 W1 ⟨rfl,O1,hT1,hf1⟩
        clear kt c_kt
        go_wp2_with fail
        go_step3
        refine ⟨rfl,0,r1.1,r1.2,O1,⟨hT1,hf1,Lib.hid rfl⟩,?_⟩
        exact ⟨_,_,_,_,_,_,_,_,_,_,_,_,_,_,_,_,_,_,_,_,_,_,_,_,_,_,_,_,_,_,_,_,_,_,_,_,_,_,_,_,_,_,_,_,_,_,_,_,_,_,_,_,_,_,_,rfl⟩
      | true=>
        rw [hb,if_pos rfl] at hr
        rw [hov,hb] at kt
        by_cases hp:0≤x.pos
        · have d1:decide (0≤x.pos)=true:=by simpa using hp
          rw [if_pos hp] at hr
          obtain ⟨r1,hr1,rfl⟩:=Option.map_eq_some_iff.1 hr
          have Hr1:=Lib.hid hr1
          clear hr hr1 Hr
          have c_kt:=f3 kt;have l_ktw:=lt_of kt
          go_wp2_with fail
          refine (pInsert_calls x hp hok.hi hok.len hok.rate r1 Hr1.out _ hT).mono ?_
          rintro e1 W1 ⟨rfl,O1,hT1,hf1⟩
          clear kt c_kt
          go_wp2_with fail
          go_step3
          refine ⟨rfl,0,r1.1,r1.2,O1,⟨hT1,hf1,Lib.hid rfl⟩,?_⟩
          exact ⟨_,_,_,_,_,_,_,_,_,_,_,_,_,_,_,_,_,_,_,_,_,_,_,_,_,_,_,_,_,_,_,_,_,_,_,_,_,_,_,_,_,_,_,_,_,_,_,_,_,_,_,_,_,_,_,rfl⟩
        · have d1:decide (0≤x.pos)=false:=by simpa using hp
          rw [if_neg hp] at hr
          cases hr
          clear Hr
          have hA:=hT.hA
          have o_kt:=hT.no
          have c_kt:=f3 kt;have l_ktw:=lt_of kt
          go_wp2_with fail
          refine wg fun V hV_V=> ?_
          have hF:=Fr.refl ((oneX tb)) O w
          refine nef1 hV_V hA hF kt ?_;clear hA hF kt c_kt;intro z_V hA hF kt c_kt
          clear hV_V
          refine dr (fun v=>(v.cell? ⟨tb,0,none⟩=V.cell? ⟨tb,0,none⟩)∧(v.cell? ⟨tb,5,none⟩=V.cell? ⟨tb,5,none⟩)∧(v.cell? ⟨tb,6,none⟩=V.cell? ⟨tb,6,none⟩)∧(v.cell? ⟨tb,7,none⟩=V.cell? ⟨tb,7,none⟩)∧(v.cell? ⟨tb,8,none⟩=V.cell? ⟨tb,8,none⟩)∧(V.heap.size≤v.heap.size)∧True) ⟨rfl,rfl,rfl,rfl,rfl,Nat.le_refl _,trivial⟩ fun Vd hV_Vd hHeld=> ?_
          have v_kt:=c_kt.1
          refine nef1 hV_Vd hA hF kt ?_;clear hA hF kt c_kt;intro z_Vd hA hF kt c_kt
          clear hV_Vd
          refine ta 0 hHeld ?_
          refine ta 1 hHeld ?_
          refine ta 2 hHeld ?_
          refine ta 3 hHeld ?_
          refine ta 4 hHeld ?_
          refine ta 5 hHeld ?_
          refine ta 6 hHeld ?_
          refine ta 7 hHeld ?_
          refine ta 8 hHeld ?_
          refine rd 9 rfl fun K hK=> ?_
          go_simp
          try simp only [IntWalk.i64_left]
          refine wC (vMake_calls x.p _ hA) fun W O1 hA_W hf_W=> ?_
          refine wif1 hf_W hF kt o_kt ?_;clear hA hF kt o_kt c_kt hf_W;intro z_W hF kt c_kt o_kt;have hA:=hA_W;clear hA_W
          refine ho hK ⟨vo c_kt v_kt 0,vo c_kt v_kt 5,vo c_kt v_kt 6,vo c_kt v_kt 7,vo c_kt v_kt 8,by omega,trivial⟩ fun hHeld=> ?_
          clear hK K
          refine ta 10 hHeld ?_
          refine ta 11 hHeld ?_
          refine ta 12 hHeld ?_
          refine ta 13 hHeld ?_
          refine ta 14 hHeld ?_
          refine rd 15 rfl fun K hK=> ?_
          go_simp
          refine ga (K:=K) fun D hV_D=> ?_
          refine nef1 hV_D hA hF kt ?_;clear hA hF kt c_kt;intro z_D hA hF kt c_kt
          clear hV_D
          refine ho hK ⟨vo c_kt v_kt 0,vo c_kt v_kt 5,vo c_kt v_kt 6,vo c_kt v_kt 7,vo c_kt v_kt 8,by omega,trivial⟩ fun hHeld=> ?_
          clear hK K
          refine rd 16 rfl fun K hK=> ?_
          go_simp
          refine ho hK hHeld fun hHeld=> ?_
          clear hK K
          refine wd ?_
          go_wp2_with fail
          refine cg fun V2 hV_V2=> ?_
          refine nef1 hV_V2 hA hF kt ?_;clear hA hF kt c_kt;intro z_V2 hA hF kt c_kt
          clear hV_V2
          refine tC (pStop_calls {x with s:=(vMake x.s x.p).2.2,begun:=true,over:=false,root:=(vMake x.s x.p).1} _ ⟨hA,kt,o_kt⟩) fun W2 O2 hT hf=> ?_
          refine ti0 hT.hA hT.blk hT.no hf hF ?_;clear hA hF kt c_kt o_kt hT hf;intro z_W2 hA hF kt c_kt o_kt
          go_wp2_with fail
          simp only [Exit.jump]
          go_ret2
          exact ⟨rfl,O2,⟨hA,kt,o_kt⟩,hF⟩
  case pass=>
    rintro n a' wr ⟨e,x1,O1,⟨hT1,hF1,hq⟩,u1,u2,u3,u5,u6,u7,u8,u9,u10,u11,u12,u13,u14,u15,u16,u17,u18,u19,u20,u21,u22,u23,u24,u25,u26,u27,u28,u29,u30,u31,u32,u33,u34,u35,u36,u37,u38,u39,u40,u41,u42,u43,u44,u45,u46,u47,u48,u49,u50,u51,u52,u53,u54,u55,u56,rfl⟩ J hJ
    clear hJ
    have hqo:=hq.out
    unfold Pt.asked at hqo
    by_cases he:e=0
    · subst he
      rw [if_pos rfl] at hqo
      subst hqo
      have kt:=hT1.blk
      have c_kt:=f3 kt;have l_ktwr:=lt_of kt
      go_wp2_with fail
      simp only [Exit.jump]
      go_ret2
      exact ⟨rfl,O1,hT1,hF1⟩
    · rw [if_neg he] at hqo
      subst hqo
      have d1:(e !=0)=true:=by simpa using he
      clear he hq
      go_wp2_with fail
      refine (pStop_calls x1 _ hT1).mono ?_
      rintro e2 W2 ⟨rfl,O2,hT2,hf2⟩
      have kt:=hT2.blk
      have HF:=Lib.hid (hF1.trans hf2)
      clear hF1 hf2
      have c_kt:=f3 kt;have l_ktW2:=lt_of kt
      go_wp2_with fail
      simp only [Exit.jump]
      go_ret2
      exact ⟨rfl,O2,hT2,HF.out⟩
end
section
open Go.RowKit
structure Sp (w0 W:World) (ap:Value) (b:Nat) (x:Pt) (L:List (Nat×Obj)):Prop where
  ex: ∃O,PB W b ap x O∧(∀c,O c→w0.heap.size≤c)∧ ∀y∈L,W.heap[y.1]? =some y.2∧ ¬O y.1∧y.1≠b
  bel:Below w0.heap.size w0 W
  own:w0.heap.size≤b
section
variable {w0 W W' : World} {ap : Value} {b : Nat} {x x' : Pt} {L : List (Nat × Obj)}
theorem Sp.below (h:Sp w0 W ap b x L) (hb:Below W.heap.size W W'):Sp w0 W' ap b x L:=by
  obtain ⟨O,hA,hO,hL⟩:=h.ex
  exact ⟨⟨O,⟨hA.hA.below hb,keep_blk hb hA.blk,hA.no⟩,hO,fun y hy=>⟨keep_blk hb (hL y hy).1,(hL y hy).2⟩⟩,below_step h.bel hb,h.own⟩
theorem Sp.box (h:Sp w0 W ap b x L) (o:Obj) (hv:W'=W.alloc o):Sp w0 W' ap b x ((W.heap.size,o)::L):=by
  subst hv
  have hb:=below_box W o
  have h2:=h.below hb
  obtain ⟨O,hA,hO,hL⟩:=h.ex
  refine ⟨⟨O,⟨hA.hA.below hb,keep_blk hb hA.blk,hA.no⟩,hO,fun y hy=> ?_⟩,below_step h.bel hb,h.own⟩
  rcases List.mem_cons.1 hy with rfl|hy
  · exact ⟨blk_new _ _ _ rfl,hA.hA.new (Nat.le_refl _),by have:=lt_of hA.blk;dsimp only;omega⟩
  · exact ⟨keep_blk hb (hL y hy).1,(hL y hy).2⟩
theorem Sp.at0 {c:Nat} {o:Obj} (h:Sp w0 W ap b x ((c,o)::L)):W.heap[c]? =some o:=by
  obtain ⟨O, -, -,hL⟩:=h.ex
  exact (hL _ (List.mem_cons_self ..)).1
theorem Sp.st (h:Sp w0 W ap b x L):St w0 W ap x.s L:=by
  obtain ⟨O,hA,hO,hL⟩:=h.ex
  exact ⟨⟨O,hA.hA,hO,fun y hy=>⟨(hL y hy).1,(hL y hy).2.1⟩⟩,h.bel⟩
variable {f : FuncId} {args : Array Value} {r : Ending} {P : Program}
theorem Sp.read (h:Sp w0 W ap b x L) (hc: ∀O,PB W b ap x O→Calls P f args W fun e w'=>e=r∧Below W.heap.size W w'):Calls P f args W fun e w'=>e=r∧Sp w0 w' ap b x L:=by
  obtain ⟨O,hA, -⟩:=h.ex
  exact (hc O hA).mono fun e w' ⟨he,hb⟩=>⟨he,h.below hb⟩
theorem Sp.same (h:Sp w0 W ap b x L) (hc: ∀O,PB W b ap x O→Calls P f args W fun e w'=>e=r∧W=w'):Calls P f args W fun e w'=>e=r∧Sp w0 w' ap b x L:=by
  obtain ⟨O,hA, -⟩:=h.ex
  exact (hc O hA).mono fun e w' ⟨he,hb⟩=>⟨he,hb▸h⟩
theorem Sp.act (h:Sp w0 W ap b x L) (hc: ∀O,PB W b ap x O→Calls P f args W fun e w'=>e=r∧DidP b ap x' O W w'):Calls P f args W fun e w'=>e=r∧Sp w0 w' ap b x' L:=by
  obtain ⟨O,hA,hO,hL⟩:=h.ex
  refine (hc O hA).mono fun e w' ⟨he,O',h1,hF⟩=>⟨he,⟨O',h1,fun c hc=> ?_,fun y hy=>⟨hF.keep (hL y hy).1 (hL y hy).2.1 (fun q=>(hL y hy).2.2 q),fun hy'=> ?_,(hL y hy).2.2⟩⟩,Fr.below_own hF h.bel hO (fun c hc=>by unfold oneX at hc;rw [hc];exact h.own),h.own⟩
  · rcases hF.own c hc with q|q
    · exact hO c q
    · have:=h.bel.size;omega
  · rcases hF.own _ hy' with q|q
    · exact (hL y hy).2.1 q
    · have:=lt_of (hL y hy).1;omega
theorem Sp.write {s':Ar} (h:Sp w0 W ap b x L) (hc: ∀O,AP W ap x.s O→Calls P f args W fun e w'=>e=r∧Did noX ap s' O W w'):Calls P f args W fun e w'=>e=r∧Sp w0 w' ap b {x with s:=s'} L:=by
  obtain ⟨O,hA,hO,hL⟩:=h.ex
  refine (hc O hA.hA).mono fun e w' ⟨he,O',h1,hF⟩=>⟨he,⟨O',⟨h1,hF.keep hA.blk hA.no (fun q=>q),hF.not_own (lt_of hA.blk) hA.no⟩,fun c hc=> ?_,fun y hy=>⟨hF.keep (hL y hy).1 (hL y hy).2.1 (fun q=>q),fun hy'=> ?_,(hL y hy).2.2⟩⟩,fr_below h.bel hF hO,h.own⟩
  · rcases hF.own c hc with q|q
    · exact hO c q
    · have:=h.bel.size;omega
  · rcases hF.own _ hy' with q|q
    · exact (hL y hy).2.1 q
    · have:=lt_of (hL y hy).1;omega
end
theorem St.put {w0 W : World} {p : Addr} {s : Ar} {L : List (Nat × Obj)} (h : St w0 W (.pointer (some p)) s L) (root rate id : Int) (t : List UInt8) (l : List (Int × Int)) (hl : lAll s (vOf s root).table = some l) (hll : l.length ≤ 50000)
    (hvi:vIs s root=true) (h1:1≤rate) (h2:rate≤16) (h3:1≤id) (hpl:(placeIn id l 0).2=false) (h4:t.length≤40) (h10:vDocs s root<10):
    Calls Tryz.prog 40 #[.pointer (some p), .int .i64 root, .int .i64 rate, .int .i64 id,strOf t] W fun e w'=> ∃b,e= .returned (.tuple #[.pointer (some ⟨b,0,none⟩), .int .i64 0])∧Sp w0 w' (.pointer (some p)) b (Pt.new s root rate id t) L:=by
  obtain ⟨O,hA,hO,hL⟩:=h.ex
  refine (pNew_yes p root rate id t l hl hll hvi h1 h2 h3 hpl h4 h10 W hA).mono ?_
  rintro e w' ⟨b,O',he,hb,hp,hF⟩
  have hsz:=h.bel.size
  refine ⟨b,he,⟨O',hp,fun c hc=> ?_,fun y hy=>⟨hF.keep (hL y hy).1 (hL y hy).2 (fun q=>q),fun hy'=> ?_,fun e=> ?_⟩⟩,fr_below h.bel hF hO,Nat.le_trans hsz hb⟩
  · rcases hF.own c hc with q|q
    · exact hO c q
    · omega
  · rcases hF.own _ hy' with q|q
    · exact (hL y hy).2 q
    · have:=lt_of (hL y hy).1;omega
  · have:=lt_of (hL y hy).1;omega
end
section
open Go.RowKit
def HasW (s:Ar) (h:Int) (l:List Int):Prop:= ∃t,Rep s h t∧WaveT 9 t l
def HasB (s:Ar) (h:Int) (l:List Bool):Prop:= ∃t,Rep s h t∧BitsR t l
def HasL (s:Ar) (h:Int) (l:List (Int×Int)):Prop:= ∃t,Rep s h t∧ListR t l
theorem HasW.grow {s s':Ar} {h:Int} {l:List Int} (hg:Grow s s') (x:HasW s h l):HasW s' h l:=by obtain ⟨t,a,b⟩:=x;exact ⟨t,a.grow hg,b⟩
theorem HasB.grow {s s':Ar} {h:Int} {l:List Bool} (hg:Grow s s') (x:HasB s h l):HasB s' h l:=by obtain ⟨t,a,b⟩:=x;exact ⟨t,a.grow hg,b⟩
theorem HasL.grow {s s':Ar} {h:Int} {l:List (Int×Int)} (hg:Grow s s') (x:HasL s h l):HasL s' h l:=by obtain ⟨t,a,b⟩:=x;exact ⟨t,a.grow hg,b⟩
theorem HasW.stay {s s':Ar} {h:Int} {l:List Int} {H:List Int} (hs:Stay s s' H) (hh:h∈H) (x:HasW s h l):HasW s' h l:=by obtain ⟨t,a,b⟩:=x;exact ⟨t,a.held hs hh,b⟩
theorem HasB.stay {s s':Ar} {h:Int} {l:List Bool} {H:List Int} (hs:Stay s s' H) (hh:h∈H) (x:HasB s h l):HasB s' h l:=by obtain ⟨t,a,b⟩:=x;exact ⟨t,a.held hs hh,b⟩
theorem HasL.stay {s s':Ar} {h:Int} {l:List (Int×Int)} {H:List Int} (hs:Stay s s' H) (hh:h∈H) (x:HasL s h l):HasL s' h l:=by obtain ⟨t,a,b⟩:=x;exact ⟨t,a.held hs hh,b⟩
theorem nextA_T {s : Ar} {H1 H2 : List Int} {h : Int} {r : Int × Int × Ar} {c : Nat} {P : Tr → Prop} (ok : Bool) (hr : Rs s r (H1 ++ h :: H2) c P) :
    Inv (nextA ok h r).2.2 (H1++(nextA ok h r).1::H2)∧Grow s (nextA ok h r).2.2∧(nextA ok h r).2.2.busyN≤s.busyN+c∧
    (((nextA ok h r).2.1=ok∧ ∃t',Rep (nextA ok h r).2.2 (nextA ok h r).1 t'∧P t')∨((nextA ok h r).2.1=false∧(nextA ok h r).1=h∧s.size<s.busyN+c)):=by
  unfold nextA
  rcases hr.res with ⟨e,t',a,b⟩|⟨e,e1,e2⟩
  · rw [if_pos e]
    dsimp only
    have hd:(if h=0 then r.2.2 else r.2.2.drop h)=r.2.2.drop h:=by
      split
      · rename_i q;rw [q,drop_zero]
      · rfl
    rw [hd]
    have hp:Inv r.2.2 (h::(H1++r.1::H2)):=hr.inv.perm (by
      refine (List.Perm.cons _ List.perm_middle).trans ?_
      refine (List.Perm.swap _ _ _).trans (List.Perm.cons _ ?_)
      exact List.perm_middle.symm)
    have hg:=Grow.drop r.2.2 h
    exact ⟨hp.drop,hr.grow.trans hg,by rw [busyN_drop];exact hr.cost, .inl ⟨rfl,t',a.grow hg,b⟩⟩
  · rw [if_neg (by omega)]
    dsimp only
    have:=hr.inv
    rw [e1] at this
    exact ⟨this.tail_zero,hr.grow,hr.cost, .inr ⟨rfl,rfl,e2⟩⟩
structure Bp (b:Bst) (lw:List Int) (lm:List Bool) (ls lt:List (Int×Int)):Prop where
  inv:Inv b.s [b.p.wave,b.p.marks,b.p.spots,b.p.table]
  w:HasW b.s b.p.wave lw
  m:HasB b.s b.p.marks lm
  sp:HasL b.s b.p.spots ls
  t:HasL b.s b.p.table lt
  sy:Sy lw
theorem Bp.wr {b:Bst} {lw:List Int} {lm:List Bool} {ls lt:List (Int×Int)} (h:Bp b lw lm ls lt) (hl:lw.length≤9000):WR b.s 9 b.p.wave lw:=⟨h.w,fun h0=>h.inv.pos (by simp) h0,hl,h.sy⟩
theorem Bp.busy {b:Bst} {lw:List Int} {lm:List Bool} {ls lt:List (Int×Int)} (h:Bp b lw lm ls lt) (hw:b.s.wait=[]):8*b.s.busyN≤2040+39*lw.length+lm.length+16*ls.length+16*lt.length:=by
  obtain ⟨t1,a1,b1⟩:=h.w
  obtain ⟨t2,a2,b2⟩:=h.m
  obtain ⟨t3,a3,b3⟩:=h.sp
  obtain ⟨t4,a4,b4⟩:=h.t
  have:=h.inv.busy_le hw (T:=[t1,t2,t3,t4]) ⟨a1,a2,a3,a4,trivial⟩
  simp only [sizes,List.map_cons,List.map_nil,List.sum_cons,List.sum_nil] at this
  have:=b1.size;have:=b2.size;have:=b3.size;have:=b4.size
  omega
theorem insA_end {α:Type} (l:List α) (x:α):insA l l.length x=l++[x]:=by unfold insA;simp
def XOk (x:Int×Int×Int):Prop:=(1≤x.1∧x.1<9223372036854775808)∧(0≤x.2.1∧x.2.1≤1000)∧0≤x.2.2∧x.2.2<257
end
section
open Go.RowKit
theorem placeIn_none (id:Int): ∀(l:List (Int×Int)) (i:Int),(∀y∈l,y.1≠id)→placeIn id l i=(0,false)
  | [],_,_=>rfl
  | x::l,i,h=>by
    unfold placeIn
    rw [if_neg (h x (by simp))]
    exact placeIn_none id l (i+1) fun y hy=>h y (by simp [hy])
theorem tAdd_R {s : Ar} {H : List Int} (hI : Inv s H) (hH : H.length ≤ 900000) {h : Int} {l : List (Int × Int)} (hb : LR s h l) {x : Int × Int} (hx : 1 ≤ x.1 ∧ x.1 < 9223372036854775808 ∧ 0 ≤ x.2 ∧ x.2 ≤ 40) (hn : ∀ y ∈ l, y.1 ≠ x.1) (hl : l.length ≤ 9) :
    ∃r,tAdd s h x.1 x.2=some r∧Rs s r H (3*l.length+4) fun t=>ListR t (l++[x]):=by
  unfold tAdd tPlace
  rw [hb.all hI,Option.map_some,Option.bind_some,placeIn_none x.1 l 0 hn,hb.len hI,if_neg (by simp;omega),if_neg (by omega)]
  obtain ⟨r,a,b⟩:=lInsert_R hI hH hb (l.length:Int) (x:=x) ⟨by omega,by omega⟩ (by omega) (by omega)
  rw [Int.toNat_natCast,insA_end] at b
  exact ⟨r,a,b⟩
def DOk (x:Int×Int):Prop:=1≤x.1∧x.1<9223372036854775808∧0≤x.2∧x.2≤40
theorem docs_length {ts:List (List UInt8)}: ∀n,n≤ts.length→(docs ts n).length=((ts.take n).map fun t=>t.length+1).sum
  | 0,_=>rfl
  | n+1,h=>by
    obtain ⟨t,ht⟩:=at_some (show n<ts.length by omega)
    obtain ⟨h1,h2⟩:=List.getElem?_eq_some_iff.1 ht
    rw [docs_succ,List.length_append,docs_length n (by omega),List.take_succ_eq_append_getElem h1,List.map_append,List.sum_append,h2]
    unfold rowsOf
    rw [getD_at ht];simp
def tot (ds:Docs):Nat:=(ds.map fun d=>d.2.length).sum
theorem rows_tot {ds:Docs} (h:Right ds):(rowsM ds).length=tot ds+ds.length:=by
  rw [rowsM_length,right_all h,(all_docs _).length_eq,docs_length _ (Nat.le_refl _),List.take_length,List.map_map]
  unfold tot
  clear h
  induction ds with
  | nil=>rfl
  | cons d ds ih=>simp only [List.map_cons,List.sum_cons,List.length_cons,Function.comp] at ih⊢;omega
theorem Inv.new (n:Nat) (h:n≤6000):Inv (Ar.new n) []:=
  ⟨Ar.Wq.new n h,by simp,fun m _ _ hm=>by simp [Ar.new] at hm,fun m _ _ hm=>by simp [Ar.new] at hm,fun m _ _ hm=>by simp [Ar.new] at hm,by simp,⟨fun _=>0,fun m _ _ hm=>by simp [Ar.new] at hm⟩,by
    have:(Ar.new n).busyN=0:=usedTo_none _ _ fun _ _ _=>rfl
    rw [this]
    rfl⟩
end
section
open Go.RowKit
end
section
open Go.RowKit
def placeZ (id:Int):Docs→Int→Int
  | [],_=> -1
  | d::l,i=>if d.1=id then i else placeZ id l (i+1)
def mrFrom (ds:Docs):Docs→Int→Bool
  | [],_=>decide (ds.length≤10)
  | d::l,i=>decide (1≤d.1)&&(decide (d.2.length≤40)&&(decide (placeZ d.1 ds 0=i)&&mrFrom ds l (i+1)))
def mRight (ds:Docs):Bool:=mrFrom ds ds 0
def sumW:Docs→Int→Int
  | [],n=>n
  | d::l,n=>sumW l (wrap64 (n+d.2.length))
def few (ds:Docs):Bool:=decide (ds.length≤12)&&(decide (sumW ds 0≤60)&&mRight ds)
theorem wrap_len {n i:Nat} (h:n≤maxLen) (hi:i<n):wrap64 ((i:Int)+1)=(i:Int)+1:=IntWalk.wrap64_in _ (by unfold maxLen at h;omega)
theorem mrFrom_all (ds:Docs): ∀(l:Docs) (i:Nat),mrFrom ds l (i:Int)=true→(∀k d,l[k]? =some d→1≤d.1∧d.2.length≤40∧placeZ d.1 ds 0=((i+k:Nat):Int))∧ds.length≤10
  | [],i,h=>⟨fun k d hd=>by simp at hd,by unfold mrFrom at h;simpa using h⟩
  | x::l,i,h=>by
    unfold mrFrom at h
    simp only [Bool.and_eq_true,decide_eq_true_eq] at h
    obtain ⟨h1,h2,h3,h4⟩:=h
    obtain ⟨h5,h6⟩:=mrFrom_all ds l (i+1) h4
    refine ⟨fun k d hd=> ?_,h6⟩
    cases k with
    | zero=>cases hd;exact ⟨h1,h2,by rw [h3];rfl⟩
    | succ k=>
      obtain ⟨a,b,c⟩:=h5 k d hd
      exact ⟨a,b,by rw [c];congr 1;omega⟩
theorem sumW_eq: ∀(l:Docs) (n:Nat),(∀d∈l,d.2.length≤40)→n+40*l.length<100000→sumW l n=((n+tot l:Nat):Int)
  | [],n,_,_=>by unfold sumW tot;simp
  | d::l,n,h,hn=>by
    have hd:=h d (by simp)
    simp only [List.length_cons] at hn
    unfold sumW
    rw [IntWalk.wrap64_in _ (by omega)]
    have:=sumW_eq l (n+d.2.length) (fun x hx=>h x (by simp [hx])) (by omega)
    rw [show (n:Int)+(d.2.length:Int)=((n+d.2.length:Nat):Int) by omega,this]
    congr 1
    unfold tot
    simp only [List.map_cons,List.sum_cons]
    omega
theorem few_right {ds:Docs} (h:few ds=true) (hid: ∀d∈ds,(Lit.int .i64 d.1).wf=true):Right ds∧tot ds≤60∧ds.length≤10:=by
  unfold few mRight at h
  simp only [Bool.and_eq_true,decide_eq_true_eq] at h
  obtain ⟨h1,h2,h3⟩:=h
  obtain ⟨h4,h5⟩:=mrFrom_all ds ds 0 h3
  have h40: ∀d∈ds,d.2.length≤40:=fun d hd=>by
    obtain ⟨k,hk⟩:=List.getElem?_of_mem hd
    exact (h4 k d hk).2.1
  rw [show (0:Int)=((0:Nat):Int) from rfl,sumW_eq ds 0 h40 (by omega)] at h2
  refine ⟨⟨?_,fun d hd=> ?_,?_⟩,by omega,h5⟩
  · unfold refRight
    simp only [Bool.and_eq_true,List.all_eq_true,decide_eq_true_eq,List.length_map]
    exact ⟨fun t ht=>by obtain ⟨d,hd,rfl⟩:=List.mem_map.1 ht;exact h40 d hd,h5⟩
  · obtain ⟨k,hk⟩:=List.getElem?_of_mem hd
    exact ⟨(h4 k d hk).1,by have:=hid d hd;simp [Lit.wf,IntKind.min,IntKind.max,IntKind.bits,IntKind.signed] at this;omega⟩
  · refine List.pairwise_iff_getElem.2 fun i j hi hj hij hc=> ?_
    simp only [List.length_map] at hi hj
    simp only [List.getElem_map] at hc
    have a:=(h4 i _ (List.getElem?_eq_getElem hi)).2.2
    have b:=(h4 j _ (List.getElem?_eq_getElem hj)).2.2
    rw [hc,b] at a
    omega
end
section
open Go.RowKit
variable {s : Ar} {H : List Int} {h : Int} {ds : Docs} {rate : Int}
def rowAt (ds:Docs) (d a:Nat):Nat:=below (txt ds) (d,a) (all (txt ds))
end
section
open Go.RowKit
variable {s : Ar} {H : List Int} {h : Int} {ds : Docs} {rate : Int}
theorem vr_is (hI:Inv s H) (hv:VR s h ds rate) (hR:Right ds):vIs s h=true:=(hv.parts hI (by have:=hR.len;omega)).2.2.2.2
end
section
open Go.RowKit
variable {s : Ar} {H : List Int} {h : Int} {ds m : Docs} {rate other : Int}
def alikeD (rate other:Int) (ds m:Docs):Bool:=
  refRight (txt m)&&(docsM ds==docsM m&&(symsM (txt ds)==symsM (txt m)&&(marksM rate (txt ds)==marksM other (txt m)&&spotsM rate ds==spotsM other m)))
theorem VR.check (hI:Inv s H) (hv:VR s h ds rate) (hR:Right ds) (m:Docs) (other:Int):vCheck s h other m=some (decide (1≤other∧other≤16)&&alikeD rate other ds m):=by
  have hl:=hR.len
  obtain ⟨pw,pm,ps,pt,hi⟩:=hv.parts hI (by omega)
  have hn:=rowsM_small ds
  have hs:=rowS_length rate (rowsM ds)
  unfold vCheck alikeD
  by_cases hr:1≤other∧other≤16
  case neg=>rw [if_neg (fun q=>hr q.2),decide_eq_false hr];rfl
  rw [if_pos ⟨hi,hr⟩,decide_eq_true hr,Bool.true_and]
  by_cases hm:refRight (txt m)=true
  case neg=>rw [if_neg hm,Bool.eq_false_iff.2 hm];rfl
  rw [if_pos hm,hm,Bool.true_and,pt.all hI,Option.bind_some,if_pos (by simp [docsM];omega)]
  by_cases h1:(docsM ds==docsM m)=true
  case neg=>rw [if_neg h1,Bool.eq_false_iff.2 h1];rfl
  rw [if_pos h1,h1,Bool.true_and,pw.all hI,Option.bind_some,if_pos (by simp [rowW];omega),←symsM_eq]
  by_cases h2:(symsM (txt ds)==symsM (txt m))=true
  case neg=>rw [if_neg h2,Bool.eq_false_iff.2 h2];rfl
  rw [if_pos h2,h2,Bool.true_and,pm.all hI,Option.bind_some,if_pos (by simp [rowM];omega),←marksM_eq]
  by_cases h3:(marksM rate (txt ds)==marksM other (txt m))=true
  case neg=>rw [if_neg h3,Bool.eq_false_iff.2 h3];rfl
  rw [if_pos h3,h3,Bool.true_and,ps.all hI,Option.bind_some,if_pos (by omega),←spotsM_eq]
theorem alikeD_self (hR:refRight (txt ds)=true):alikeD rate rate ds ds=true:=by unfold alikeD;simp [hR]
theorem VR.check_own (hI:Inv s H) (hv:VR s h ds rate) (hR:Right ds) (h1:1≤rate) (h2:rate≤16):vCheck s h rate ds=some true:=by
  rw [hv.check hI hR,alikeD_self hR.right,decide_eq_true ⟨h1,h2⟩];rfl
def sameMarks (rate other:Int) (ds:Docs):Bool:=ds.all fun d=>(List.range (d.2.length+1)).all fun a=>decide ((a:Int) % rate=0)==decide ((a:Int) % other=0)
end
section
open Go.RowKit
def inP (D a:Nat) (r:Nat×Nat):Bool:=decide (r.1<D)||(r.1==D&&decide (a≤r.2))
def part (ts:List (List UInt8)) (D a:Nat):List (Nat×Nat):=(all ts).filter (inP D a)
section
variable {ts : List (List UInt8)} {D : Nat} {t : List UInt8}
theorem part_srt (a:Nat):Srt ts (part ts D a):=(all_srt ts).filter _
theorem docs_lt: ∀{n:Nat} {r:Nat×Nat},r∈docs ts n→r.1<n
  | 0,r,h=>by simp [docs] at h
  | n+1,r,h=>by
    rw [docs_succ] at h
    rcases List.mem_append.1 h with h|h
    · have:=docs_lt h;omega
    · unfold rowsOf at h
      obtain ⟨b, -,rfl⟩:=List.mem_map.1 h
      dsimp only;omega
theorem part_perm (ht:ts[D]? =some t) (hD:ts.length=D+1) {a:Nat} (ha:a≤t.length+1):(part ts D a).Perm (docs ts D++(List.range' a (t.length+1 - a)).map fun b=>(D,b)):=by
  unfold part
  refine ((all_docs ts).filter _).trans ?_
  rw [hD,docs_succ,List.filter_append,rowsOf_range,getD_at ht]
  have h1:(docs ts D).filter (inP D a)=docs ts D:=List.filter_eq_self.2 fun r hr=>by
    unfold inP;rw [decide_eq_true (docs_lt hr)];rfl
  have h2:((List.range' 0 (t.length+1)).map fun b=>(D,b)).filter (inP D a)=(List.range' a (t.length+1 - a)).map fun b=>(D,b):=by
    have e:List.range' 0 (t.length+1)=List.range' 0 a++List.range' a (t.length+1 - a):=by
      have:=List.range'_append (s:=0) (m:=a) (n:=t.length+1 - a) (step:=1)
      rw [show a+(t.length+1 - a)=t.length+1 by omega] at this
      rw [←this];simp
    rw [e,List.map_append,List.filter_append]
    have e1:((List.range' 0 a).map fun b=>(D,b)).filter (inP D a)=[]:=List.filter_eq_nil_iff.2 fun r hr=>by
      obtain ⟨b,hb,rfl⟩:=List.mem_map.1 hr
      have:=List.mem_range'_1.1 hb
      unfold inP;simp;omega
    have e2:((List.range' a (t.length+1 - a)).map fun b=>(D,b)).filter (inP D a)=(List.range' a (t.length+1 - a)).map fun b=>(D,b):=List.filter_eq_self.2 fun r hr=>by
      obtain ⟨b,hb,rfl⟩:=List.mem_map.1 hr
      have:=List.mem_range'_1.1 hb
      unfold inP;simp;omega
    rw [e1,e2,List.nil_append]
  rw [h1,h2]
theorem part_zero (hD:ts.length=D+1):part ts D 0=all ts:=List.filter_eq_self.2 fun r hr=>by
  have h:=(all_docs ts).mem_iff.1 hr
  have:=docs_lt h
  unfold inP;simp;omega
theorem part_step (ht:ts[D]? =some t) {a:Nat} (ha:a≤t.length):part ts D a=insA (part ts D (a+1)) (below ts (D,a) (part ts D (a+1))) (D,a):=by
  refine srt_insert (all_srt ts) (fun x hx=>all_in hx) (all_mem ht ha) ?_ fun x hx=> ?_
  · unfold inP;simp
  · unfold inP
    obtain ⟨x1,x2⟩:=x
    by_cases h1:x1<D
    · simp [h1]
    · by_cases h2:x1=D
      · subst h2
        rw [decide_eq_false h1]
        simp only [beq_self_eq_true,Bool.true_and,Bool.false_or]
        by_cases h3:x2=a
        · subst h3;simp
        · have:((x1,x2)==(x1,a))=false:=by simp [h3]
          rw [this,Bool.or_false]
          exact decide_eq_decide.2 (by omega)
      · have:((x1,x2)==(D,a))=false:=by simp [h2]
        rw [this,Bool.or_false]
        have e:(x1==D)=false:=by simpa using h2
        rw [e];rfl
theorem part_end (ht:ts[D]? =some t) (hD:ts.length=D+1):below ts (D,t.length) (part ts D (t.length+1))=D:=by
  unfold below
  rw [(part_perm ht hD (Nat.le_refl _)).countP_eq,Nat.sub_self,List.range'_zero,List.map_nil,List.append_nil,end_docs ht D (by omega)]
  omega
theorem part_next (ht : ts[D]? = some t) (hD : ts.length = D + 1) {a : Nat} (ha : a < t.length) :
    below ts (D,a) (part ts D (a+1))=((part ts D (a+2)).map (symOf ts)).countP (fun y=>decide (y<symOf ts (D,a+1)))+1+(((part ts D (a+2)).map (symOf ts)).take (below ts (D,a+1) (part ts D (a+2)))).count (symOf ts (D,a+1)):=by
  rw [bwt_rank_at (part_srt (a+2))]
  have hq:=Q_split (ts:=ts) D a (part ts D (a+2))
  have h1:(part ts D (a+1)).countP (fun x=>refLess ts x (D,a))=1+(part ts D (a+2)).countP (Q ts D a):=by
    rw [(part_perm ht hD (show a+1≤t.length+1 by omega)).countP_eq,(part_perm ht hD (show a+2≤t.length+1 by omega)).countP_eq,List.countP_append,List.countP_append,lf_docs ht ha D (by omega)]
    have:=doc_part ht ht ha (t.length - (a+1)) (a+1) (by omega)
    rw [show t.length - (a+1)+1=t.length+1 - (a+1) by omega] at this
    rw [this,show t.length+1 - (a+2)=t.length - (a+1) by omega,show a+1+1=a+2 from rfl]
    omega
  unfold below at h1⊢
  rw [h1,hq]
  omega
end
theorem getD_app {ts us:List (List UInt8)} {i:Nat} (h:i<ts.length):(ts++us).getD i []=ts.getD i []:=by
  rw [List.getD_eq_getElem?_getD,List.getD_eq_getElem?_getD,List.getElem?_append_left h]
theorem rl_app {ts us:List (List UInt8)} {x y:Nat×Nat} (hx:x.1<ts.length) (hy:y.1<ts.length):refLess (ts++us) x y=refLess ts x y:=by
  unfold refLess
  rw [getD_app hx,getD_app hy]
theorem part_old (ts:List (List UInt8)) (t:List UInt8):part (ts++[t]) ts.length (t.length+1)=all ts:=by
  have ht:(ts++[t])[ts.length]? =some t:=by simp
  have hp:=part_perm (ts:=ts++[t]) (D:=ts.length) ht (by simp) (Nat.le_refl _)
  rw [Nat.sub_self,List.range'_zero,List.map_nil,List.append_nil] at hp
  have hdocs: ∀n,n≤ts.length→docs (ts++[t]) n=docs ts n:=fun n=>by
    induction n with
    | zero=>intro _;rfl
    | succ n ih=>
      intro hn
      rw [docs_succ,docs_succ,ih (by omega)]
      unfold rowsOf
      rw [getD_app (by omega)]
  rw [hdocs _ (Nat.le_refl _)] at hp
  have hp2:=hp.trans (all_docs ts).symm
  refine srt_unique (ts:=ts++[t]) (part_srt _) ?_ hp2
  have hin: ∀x∈all ts,x.1<ts.length:=fun x hx=>docs_lt ((all_docs ts).mem_iff.1 hx)
  exact (all_srt ts).imp_of_mem fun {a b} ha hb h=>by rw [rl_app (hin a ha) (hin b hb)];exact h
end
end Go.Proofs.YtlboaaldggpjeaaGreat

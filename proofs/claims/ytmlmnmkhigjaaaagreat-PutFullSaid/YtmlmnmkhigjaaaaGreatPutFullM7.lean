/- Part 7 of what PutFull needs: the walks of the program's functions, and plain facts. -/
import Derived.Test.YtmlmnmkhigjaaaaGreatPutFullM6
import Derived.Laws.StructEq
set_option linter.unusedSimpArgs false
set_option linter.unusedVariables false
set_option linter.unnecessarySimpa false
namespace Go.Proofs.YtmlmnmkhigjaaaaGreat
set_option maxRecDepth 100000
set_option maxHeartbeats 8000000
section
open Go.RowKit
structure Sp (w0 W:World) (ap:Value) (b:Nat) (x:Pt) (L:List (Nat×Obj)):Prop where
  ex: ∃O,PB W b ap x O∧(∀c,O c→w0.heap.size≤c)∧ ∀y∈L,W.heap[y.1]? =some y.2∧ ¬O y.1∧y.1≠b
  bel:Below w0.heap.size w0 W
  own:w0.heap.size≤b
section
variable {w0 W W' : World} {ap : Value} {b : Nat} {x x' : Pt} {L : List (Nat × Obj)}
theorem Sp.below (h:Sp w0 W ap b x L) (hb:Below W.heap.size W W'):Sp w0 W' ap b x L:=by
  obtain ⟨O,hA,hO,hL⟩:=h.ex
  exact ⟨⟨O,⟨hA.hA.below hb,keep_blk hb hA.blk,hA.no⟩,hO,fun y hy=>⟨keep_blk hb (hL y hy).1,(hL y hy).2⟩⟩,below_step h.bel hb,h.own⟩
theorem Sp.box (h:Sp w0 W ap b x L) (o:Obj) (hv:W'=W.alloc o):Sp w0 W' ap b x ((W.heap.size,o)::L):=by
  subst hv
  have hb:=below_box W o
  have h2:=h.below hb
  obtain ⟨O,hA,hO,hL⟩:=h.ex
  refine ⟨⟨O,⟨hA.hA.below hb,keep_blk hb hA.blk,hA.no⟩,hO,fun y hy=> ?_⟩,below_step h.bel hb,h.own⟩
  rcases List.mem_cons.1 hy with rfl|hy
  · exact ⟨blk_new _ _ _ rfl,hA.hA.new (Nat.le_refl _),by have:=lt_of hA.blk;dsimp only;omega⟩
  · exact ⟨keep_blk hb (hL y hy).1,(hL y hy).2⟩
theorem Sp.at0 {c:Nat} {o:Obj} (h:Sp w0 W ap b x ((c,o)::L)):W.heap[c]? =some o:=by
  obtain ⟨O, -, -,hL⟩:=h.ex
  exact (hL _ (List.mem_cons_self ..)).1
theorem Sp.st (h:Sp w0 W ap b x L):St w0 W ap x.s L:=by
  obtain ⟨O,hA,hO,hL⟩:=h.ex
  exact ⟨⟨O,hA.hA,hO,fun y hy=>⟨(hL y hy).1,(hL y hy).2.1⟩⟩,h.bel⟩
variable {f : FuncId} {args : Array Value} {r : Ending} {P : Program}
theorem Sp.read (h:Sp w0 W ap b x L) (hc: ∀O,PB W b ap x O→Calls P f args W fun e w'=>e=r∧Below W.heap.size W w'):Calls P f args W fun e w'=>e=r∧Sp w0 w' ap b x L:=by
  obtain ⟨O,hA, -⟩:=h.ex
  exact (hc O hA).mono fun e w' ⟨he,hb⟩=>⟨he,h.below hb⟩
theorem Sp.same (h:Sp w0 W ap b x L) (hc: ∀O,PB W b ap x O→Calls P f args W fun e w'=>e=r∧W=w'):Calls P f args W fun e w'=>e=r∧Sp w0 w' ap b x L:=by
  obtain ⟨O,hA, -⟩:=h.ex
  exact (hc O hA).mono fun e w' ⟨he,hb⟩=>⟨he,hb▸h⟩
theorem Sp.act (h:Sp w0 W ap b x L) (hc: ∀O,PB W b ap x O→Calls P f args W fun e w'=>e=r∧DidP b ap x' O W w'):Calls P f args W fun e w'=>e=r∧Sp w0 w' ap b x' L:=by
  obtain ⟨O,hA,hO,hL⟩:=h.ex
  refine (hc O hA).mono fun e w' ⟨he,O',h1,hF⟩=>⟨he,⟨O',h1,fun c hc=> ?_,fun y hy=>⟨hF.keep (hL y hy).1 (hL y hy).2.1 (fun q=>(hL y hy).2.2 q),fun hy'=> ?_,(hL y hy).2.2⟩⟩,Fr.below_own hF h.bel hO (fun c hc=>by unfold oneX at hc;rw [hc];exact h.own),h.own⟩
  · rcases hF.own c hc with q|q
    · exact hO c q
    · have:=h.bel.size;omega
  · rcases hF.own _ hy' with q|q
    · exact (hL y hy).2.1 q
    · have:=lt_of (hL y hy).1;omega
theorem Sp.write {s':Ar} (h:Sp w0 W ap b x L) (hc: ∀O,AP W ap x.s O→Calls P f args W fun e w'=>e=r∧Did noX ap s' O W w'):Calls P f args W fun e w'=>e=r∧Sp w0 w' ap b {x with s:=s'} L:=by
  obtain ⟨O,hA,hO,hL⟩:=h.ex
  refine (hc O hA.hA).mono fun e w' ⟨he,O',h1,hF⟩=>⟨he,⟨O',⟨h1,hF.keep hA.blk hA.no (fun q=>q),hF.not_own (lt_of hA.blk) hA.no⟩,fun c hc=> ?_,fun y hy=>⟨hF.keep (hL y hy).1 (hL y hy).2.1 (fun q=>q),fun hy'=> ?_,(hL y hy).2.2⟩⟩,fr_below h.bel hF hO,h.own⟩
  · rcases hF.own c hc with q|q
    · exact hO c q
    · have:=h.bel.size;omega
  · rcases hF.own _ hy' with q|q
    · exact (hL y hy).2.1 q
    · have:=lt_of (hL y hy).1;omega
end
theorem St.put {w0 W : World} {p : Addr} {s : Ar} {L : List (Nat × Obj)} (h : St w0 W (.pointer (some p)) s L) (root rate id : Int) (t : List UInt8) (l : List (Int × Int)) (hl : lAll s (vOf s root).table = some l) (hll : l.length ≤ 50000)
    (hvi:vIs s root=true) (h1:1≤rate) (h2:rate≤16) (h3:1≤id) (hpl:(placeIn id l 0).2=false) (h4:t.length≤40) (h10:vDocs s root<10):
    Calls Tryz.prog 48 #[.pointer (some p), .int .i64 root, .int .i64 rate, .int .i64 id,strOf t] W fun e w'=> ∃b,e= .returned (.tuple #[.pointer (some ⟨b,0,none⟩), .int .i64 0])∧Sp w0 w' (.pointer (some p)) b (Pt.new s root rate id t) L:=by
  obtain ⟨O,hA,hO,hL⟩:=h.ex
  refine (pNew_yes p root rate id t l hl hll hvi h1 h2 h3 hpl h4 h10 W hA).mono ?_
  rintro e w' ⟨b,O',he,hb,hp,hF⟩
  have hsz:=h.bel.size
  refine ⟨b,he,⟨O',hp,fun c hc=> ?_,fun y hy=>⟨hF.keep (hL y hy).1 (hL y hy).2 (fun q=>q),fun hy'=> ?_,fun e=> ?_⟩⟩,fr_below h.bel hF hO,Nat.le_trans hsz hb⟩
  · rcases hF.own c hc with q|q
    · exact hO c q
    · omega
  · rcases hF.own _ hy' with q|q
    · exact (hL y hy).2 q
    · have:=lt_of (hL y hy).1;omega
  · have:=lt_of (hL y hy).1;omega
end
section
open Go.RowKit Go.Shelf
attribute [local go_sem ↓] Go.wp_at_zero Go.wp_at_succ
def encI (x:Int×Int):List Value:=[.int .i64 x.1, .int .i64 x.2]
theorem neqItem:NeqAt Tryz.prog 140 (fun x:Int×Int=> .agg (encI x).toArray) (fun x y=>x==y):=by
  refine ⟨fun x y w=> ?_,GuardAt.agg _ (by kernel_rfl)⟩
  have u3:=Tryz.underlying3
  have a3:=Tryz.isAgg3
  have z3:=Tryz.sizeOf3
  have hS:Tryz.prog.underlying 140=some (.struct (Tryz.prog.fieldsOf 140)):=by kernel_rfl
  have hp:Tryz.prog.stoodInHeld 140=false:=by kernel_rfl
  obtain ⟨x1,x2⟩:=x
  obtain ⟨y1,y2⟩:=y
  simp only [encI]
  rw [run_neq_struct,show (10000:Nat)=9999+1 from rfl,run_equalIn_agg w 9999 140 _ _ hS hp]
  simp only [Program.fieldsOf,Tryz.underlying140]
  go_simp
  by_cases h1:x1=y1<;>by_cases h2:x2=y2<;>simp [h1,h2]
theorem allEq_items {α:Type} [BEq α] [LawfulBEq α]: ∀(a b:List α),Lib.allEq (fun x y=>x==y) a b=(a==b)
  | [],[]=>rfl
  | [],_::_=>rfl
  | _::_,[]=>rfl
  | x::a,y::b=>by
    unfold Lib.allEq
    rw [allEq_items a b];rfl
theorem equal_short {F : Nat} (hwalk : ∀ (A B : Option Addr) (n m c d : Nat) (w : World), n ≠ m ∨ n = 0 → n ≤ 50000 → m ≤ 50000 → Calls Tryz.prog F #[.slice A n c, .slice B m d] w fun e w' => e = .returned (.bool (decide (n = m))) ∧ Below w.heap.size w w')
    {α:Type} [BEq α] [LawfulBEq α] (a b:List α) (ha:a.length≤50000) (hb:b.length≤50000) (h:a.length≠b.length∨a.length=0) (A B:Option Addr) (c d:Nat) (w:World):
    Calls Tryz.prog F #[.slice A a.length c, .slice B b.length d] w fun e w'=>e= .returned (.bool (a==b))∧Below w.heap.size w w':=by
  have hx:=hwalk A B a.length b.length c d w h ha hb
  have:decide (a.length=b.length)=(a==b):=by
    by_cases e:a.length=b.length
    · rcases h with h|h
      · exact absurd e h
      · have h1:a=[]:=List.length_eq_zero_iff.1 h
        have h2:b=[]:=List.length_eq_zero_iff.1 (by omega)
        rw [h1,h2];rfl
    · have:a≠b:=fun q=>e (congrArg List.length q)
      rw [decide_eq_false e]
      simp [this]
  rw [this] at hx;exact hx
theorem itemCells_enc (l:List (Int×Int)) (j:Nat) (hj:j<l.length) (i:Nat) (v:Value) (hv:(encI l[j]!)[i]? =some v):(itemCells l)[j*2+i]? =some v:=by
  obtain ⟨h1,h2⟩:=itemCells_at l j l[j] (List.getElem?_eq_getElem hj)
  rw [getElem!_pos l j hj] at hv
  unfold encI at hv
  match i with
  | 0=>simp at hv;rw [←hv];exact h1
  | 1=>simp at hv;rw [←hv];exact h2
  | i+2=>simp at hv
theorem eqItem_short (A B:Option Addr) (n m c d:Nat) (w:World) (h:n≠m∨n=0) (hn:n≤50000) (hm:m≤50000):Calls Tryz.prog 128 #[.slice A n c, .slice B m d] w fun e w'=>e= .returned (.bool (decide (n=m)))∧Below w.heap.size w w':=by
  by_cases e:n=m
  · subst e
    obtain rfl:n=0:=by omega
    rw [decide_eq_true rfl]
    go_enter Tryz.func128,Tryz.ntmps128
    go_wp2_with fail
    go_loopg [13] 0 (fun k p wr=>p= .int .i64 0∧Hid (Below w.heap.size w wr))
    case atStart=>exact ⟨rfl,Lib.hid (Below.refl _ _)⟩
    case round=>
      obtain ⟨rfl,HB⟩:=hrel
      go_wp2_with fail
      go_ret
      exact ⟨rfl,HB.out⟩
  · have e1: ¬(n:Int)=(m:Int):=by omega
    rw [decide_eq_false e]
    clear h e
    go_enter Tryz.func128,Tryz.ntmps128
    go_wp2_with fail
    go_ret
    exact ⟨rfl,Below.refl _ _⟩
theorem eqItem_calls (v1 v2 : Value) (a b : List (Int × Int)) (ha : a.length ≤ 50000) (hb : b.length ≤ 50000) (w : World) (h1 : Rx w 2 v1 a.length (itemCells a)) (h2 : Rx w 2 v2 b.length (itemCells b)) :
    Calls Tryz.prog 128 #[v1,v2] w fun e w'=>e= .returned (.bool (a==b))∧Below w.heap.size w w':=by
  obtain ⟨-,A,c,rfl,h1⟩:=h1
  obtain ⟨-,B,d,rfl,h2⟩:=h2
  by_cases h:a.length≠b.length∨a.length=0
  · exact equal_short eqItem_short a b ha hb h A B c d w
  · obtain ⟨g1,rfl, -,c1⟩:=h1 (by omega)
    obtain ⟨g2,rfl, -,c2⟩:=h2 (by omega)
    have hcon:=AnyQ.slices_Equal Tryz.layEqItem 2 Tryz.isAgg140 Tryz.sizeOf140 encI (fun _=>rfl) (fun x y=>x==y) neqItem g1 0 a.length c g2 0 b.length d a b w (Nat.le_refl _) (Nat.le_refl _) (by omega) (by omega) (fun j hj i v hv=>by
      have h2:i<2:=by
        rcases Nat.lt_or_ge i 2 with h|h
        · exact h
        · rw [List.getElem?_eq_none (by simp [encI];omega)] at hv;cases hv
      rw [Nat.zero_add,c1 _ (by omega)];exact itemCells_enc a j hj i v hv) (fun j hj i v hv=>by
      have h2:i<2:=by
        rcases Nat.lt_or_ge i 2 with h|h
        · exact h
        · rw [List.getElem?_eq_none (by simp [encI];omega)] at hv;cases hv
      rw [Nat.zero_add,c2 _ (by omega)];exact itemCells_enc b j hj i v hv)
    rw [List.take_length,List.take_length,allEq_items] at hcon
    refine Calls.mono hcon ?_
    rintro e w' ⟨rfl,q,rfl⟩
    exact ⟨rfl,below_drewN (Below.refl _ _) q⟩
theorem eqInt_short (A B:Option Addr) (n m c d:Nat) (w:World) (h:n≠m∨n=0) (hn:n≤50000) (hm:m≤50000):Calls Tryz.prog 130 #[.slice A n c, .slice B m d] w fun e w'=>e= .returned (.bool (decide (n=m)))∧Below w.heap.size w w':=by
  by_cases e:n=m
  · subst e
    obtain rfl:n=0:=by omega
    rw [decide_eq_true rfl]
    go_enter Tryz.func130,Tryz.ntmps130
    go_wp2_with fail
    go_loopg [13] 0 (fun k p wr=>p= .int .i64 0∧Hid (Below w.heap.size w wr))
    case atStart=>exact ⟨rfl,Lib.hid (Below.refl _ _)⟩
    case round=>
      obtain ⟨rfl,HB⟩:=hrel
      go_wp2_with fail
      go_ret
      exact ⟨rfl,HB.out⟩
  · have e1: ¬(n:Int)=(m:Int):=by omega
    rw [decide_eq_false e]
    clear h e
    go_enter Tryz.func130,Tryz.ntmps130
    go_wp2_with fail
    go_ret
    exact ⟨rfl,Below.refl _ _⟩
theorem eqInt_calls (v1 v2 : Value) (a b : List Int) (ha : a.length ≤ 50000) (hb : b.length ≤ 50000) (w : World) (h1 : Rx w 1 v1 a.length (a.map fun x => .int .i64 x)) (h2 : Rx w 1 v2 b.length (b.map fun x => .int .i64 x)) :
    Calls Tryz.prog 130 #[v1,v2] w fun e w'=>e= .returned (.bool (a==b))∧Below w.heap.size w w':=by
  obtain ⟨-,A,c,rfl,h1⟩:=h1
  obtain ⟨-,B,d,rfl,h2⟩:=h2
  by_cases h:a.length≠b.length∨a.length=0
  · exact equal_short eqInt_short a b ha hb h A B c d w
  · obtain ⟨g1,rfl, -,c1⟩:=h1 (by omega)
    obtain ⟨g2,rfl, -,c2⟩:=h2 (by omega)
    have hcon:=AnyE.slices_Equal Tryz.layEqInt (fun x=> .int .i64 x) (fun x y=>x==y) (NeqAt.int Tryz.prog 3 .i64) g1 0 a.length c g2 0 b.length d a b w (Nat.le_refl _) (Nat.le_refl _) (by omega) (by omega) (fun j hj=>by
      rw [Nat.zero_add,c1 _ (by omega),List.getElem?_map,List.getElem?_eq_getElem hj,getElem!_pos a j hj];rfl) (fun j hj=>by
      rw [Nat.zero_add,c2 _ (by omega),List.getElem?_map,List.getElem?_eq_getElem hj,getElem!_pos b j hj];rfl)
    rw [List.take_length,List.take_length,allEq_items] at hcon
    refine Calls.mono hcon ?_
    rintro e w' ⟨rfl,q,rfl⟩
    exact ⟨rfl,below_drewN (Below.refl _ _) q⟩
theorem eqBool_short (A B:Option Addr) (n m c d:Nat) (w:World) (h:n≠m∨n=0) (hn:n≤50000) (hm:m≤50000):Calls Tryz.prog 133 #[.slice A n c, .slice B m d] w fun e w'=>e= .returned (.bool (decide (n=m)))∧Below w.heap.size w w':=by
  by_cases e:n=m
  · subst e
    obtain rfl:n=0:=by omega
    rw [decide_eq_true rfl]
    go_enter Tryz.func133,Tryz.ntmps133
    go_wp2_with fail
    go_loopg [13] 0 (fun k p wr=>p= .int .i64 0∧Hid (Below w.heap.size w wr))
    case atStart=>exact ⟨rfl,Lib.hid (Below.refl _ _)⟩
    case round=>
      obtain ⟨rfl,HB⟩:=hrel
      go_wp2_with fail
      go_ret
      exact ⟨rfl,HB.out⟩
  · have e1: ¬(n:Int)=(m:Int):=by omega
    rw [decide_eq_false e]
    clear h e
    go_enter Tryz.func133,Tryz.ntmps133
    go_wp2_with fail
    go_ret
    exact ⟨rfl,Below.refl _ _⟩
theorem eqBool_calls (v1 v2 : Value) (a b : List Bool) (ha : a.length ≤ 50000) (hb : b.length ≤ 50000) (w : World) (h1 : Rx w 1 v1 a.length (a.map fun x => .bool x)) (h2 : Rx w 1 v2 b.length (b.map fun x => .bool x)) :
    Calls Tryz.prog 133 #[v1,v2] w fun e w'=>e= .returned (.bool (a==b))∧Below w.heap.size w w':=by
  obtain ⟨-,A,c,rfl,h1⟩:=h1
  obtain ⟨-,B,d,rfl,h2⟩:=h2
  by_cases h:a.length≠b.length∨a.length=0
  · exact equal_short eqBool_short a b ha hb h A B c d w
  · obtain ⟨g1,rfl, -,c1⟩:=h1 (by omega)
    obtain ⟨g2,rfl, -,c2⟩:=h2 (by omega)
    have hcon:=AnyE.slices_Equal Tryz.layEqBool (fun x=> .bool x) (fun x y=>x==y) (NeqAt.bool 4 Tryz.underlying4) g1 0 a.length c g2 0 b.length d a b w (Nat.le_refl _) (Nat.le_refl _) (by omega) (by omega) (fun j hj=>by
      rw [Nat.zero_add,c1 _ (by omega),List.getElem?_map,List.getElem?_eq_getElem hj,getElem!_pos a j hj];rfl) (fun j hj=>by
      rw [Nat.zero_add,c2 _ (by omega),List.getElem?_map,List.getElem?_eq_getElem hj,getElem!_pos b j hj];rfl)
    rw [List.take_length,List.take_length,allEq_items] at hcon
    refine Calls.mono hcon ?_
    rintro e w' ⟨rfl,q,rfl⟩
    exact ⟨rfl,below_drewN (Below.refl _ _) q⟩
end
section
open Go.RowKit
attribute [local go_sem ↓] Go.wp_at_zero Go.wp_at_succ
variable {ap : Value} {s : Ar} {O : Nat → Prop}
theorem bAll_calls (h : Int) (l : List Bool) (hr : bAll s h = some l) (hl : l.length ≤ 50000) (w : World) (hA : AP w ap s O) :
    Calls Tryz.prog 134 #[ap, .int .i64 h] w fun e w'=> ∃v,e= .returned v∧w'.ownsRow w.heap.size 4 1 v l.length (l.map fun x=> .bool x)∧Below w.heap.size w w':=by
  have hA0:=Lib.hid hA
  have hr':=Lib.hid hr
  have hlen:l.length=(bLen s h).toNat:=eachO_len _ _ _ hr
  clear hr
  go_enter Tryz.func134,Tryz.ntmps134
  go_wp2_with fail
  refine cg fun V hV_V=> ?_
  have hB:=Below.refl w.heap.size w
  refine nea0 hV_V hA hB ?_;clear hA hB;intro z_V hA hB
  clear hV_V
  refine rC (bLen_calls _ _ hA) fun W1 hb_W1=> ?_
  refine bea0 hb_W1 hA hB ?_;clear hb_W1 hA hB;intro z_W1 hA hB
  go_wp2_with fail
  refine wg fun V1 hV_V1=> ?_
  refine nea0 hV_V1 hA hB ?_;clear hA hB;intro z_V1 hA hB
  clear hV_V1
  go_loopg [5,12] (bLen s h).toNat (fun k p q wr=> ∃(i:Int) (d0 rest:List Bool),q= .int .i64 i∧0≤i∧i≤50000∧(d0.length:Int)=i∧k=(bLen s h - i).toNat∧Hid (eachO (fun i=>(bGet s h i).map (·.1)) k i=some rest)∧Hid (l=d0++rest)∧Hid (wr.ownsRow w.heap.size 4 1 p d0.length (d0.map fun x=> .bool x))∧Below w.heap.size w wr)
  case atStart=>exact ⟨0,[],l,rfl,by omega,by omega,rfl,by simp,hr',Lib.hid rfl,Lib.hid (own_nil _ _ _ _),hB⟩
  case round=>
    clear hA hB hr'
    obtain ⟨i,d0,rest,rfl,hi0,hi1,hdl,hk,He,Hl,Hown,hB0⟩:=hrel
    have hA:=hA0.out.below hB0
    by_cases hlt:i<bLen s h
    · have d1:decide (i<bLen s h)=true:=by simpa using hlt
      obtain ⟨k,rfl⟩: ∃k,gk=k+1:=⟨gk - 1,by omega⟩
      have he:=He.out
      unfold eachO at he
      obtain ⟨x,hx,he⟩:=Option.bind_eq_some_iff.1 he
      obtain ⟨rest',he',hrest⟩:=Option.bind_eq_some_iff.1 he
      obtain ⟨g,hg,hgx⟩:=Option.map_eq_some_iff.1 hx
      have hrest:=Option.some.inj hrest
      have hlx:l.length=d0.length+(1+rest'.length):=by rw [Hl.out,←hrest];simp;omega
      have Hg:=Lib.hid hg
      have Hx:=Lib.hid hgx
      have He':=Lib.hid he'
      have Hl':Hid (l=(d0++[x])++rest'):=Lib.hid (by rw [Hl.out,←hrest];simp)
      clear He Hl he hx he' hrest hg hgx
      have hw0:=hB0.size
      have HB0:=Lib.hid hB0;clear hB0
      have hB:=Below.refl wr.heap.size wr
      go_wp2_with fail
      refine cg fun V2 hV_V2=> ?_
      refine nea0 hV_V2 hA hB ?_;clear hA hB;intro z_V2 hA hB
      clear hV_V2
      refine rC (bGet_calls _ _ g Hg.out _ hA) fun W2 hb_W2=> ?_
      refine bea0 hb_W2 hA hB ?_;clear hb_W2 hA hB;intro z_W2 hA hB
      have Hbl:=Lib.hid (below_step HB0.out hB)
      have hown:=own_below Hown.out hB
      clear Hown
      go_wp2_with (at_builtin;refine wpList_push _ (by rfl) _ _ 128 (by rfl) (w.heap.size) 4 (.bool false) 1 1 Tryz.underlying128 (by kernel_rfl) (by rfl) (by omega) _ _ _ (by rfl) hown _ (by rfl) (by rfl) (by simp [Value.oneCell']) (by unfold maxLen;omega) (by omega) (by omega) ?_;intro g_W c_W W3 hown_W hlow_W hlt_W)
      have h1:wrap64 (i+1)=i+1:=IntWalk.wrap64_in _ (by omega)
      go_wp2_with fail
      go_roundg k
      case measure=>omega
      case rel=>
        refine ⟨i+1,d0++[x],rest',by rw [←h1],by omega,by omega,by simp;omega,by omega,He',Hl',?_,low_step Hbl.out (by omega) hlow_W⟩
        rw [List.map_append,List.length_append,←Hx.out]
        exact Lib.hid hown_W
    · have d1:decide (i<bLen s h)=false:=by simpa using hlt
      obtain rfl:gk=0:=by omega
      have he:=He.out
      unfold eachO at he
      obtain rfl:=Option.some.inj he
      have hl2:=Hl.out
      simp only [List.append_nil] at hl2
      have hn:d0.length=l.length:=by rw [hl2]
      clear He Hl he
      go_wp2_with fail
      go_ret
      refine ⟨u5,rfl,?_,hB0⟩
      rw [hl2];exact Hown.out
theorem wAll_calls (h : Int) (l : List Int) (hr : wAll s h = some l) (hl : l.length ≤ 50000) (w : World) (hA : AP w ap s O) :
    Calls Tryz.prog 131 #[ap, .int .i64 h] w fun e w'=> ∃v,e= .returned v∧w'.ownsRow w.heap.size 3 1 v l.length (l.map fun x=> .int .i64 x)∧Below w.heap.size w w':=by
  have hA0:=Lib.hid hA
  have hr':=Lib.hid hr
  have hlen:l.length=(wLen s h).toNat:=eachO_len _ _ _ hr
  clear hr
  go_enter Tryz.func131,Tryz.ntmps131
  go_wp2_with fail
  refine cg fun V hV_V=> ?_
  have hB:=Below.refl w.heap.size w
  refine nea0 hV_V hA hB ?_;clear hA hB;intro z_V hA hB
  clear hV_V
  refine rC (wLen_calls _ _ hA) fun W1 hb_W1=> ?_
  refine bea0 hb_W1 hA hB ?_;clear hb_W1 hA hB;intro z_W1 hA hB
  go_wp2_with fail
  refine wg fun V1 hV_V1=> ?_
  refine nea0 hV_V1 hA hB ?_;clear hA hB;intro z_V1 hA hB
  clear hV_V1
  go_loopg [5,12] (wLen s h).toNat (fun k p q wr=> ∃(i:Int) (d0 rest:List Int),q= .int .i64 i∧0≤i∧i≤50000∧(d0.length:Int)=i∧k=(wLen s h - i).toNat∧Hid (eachO (fun i=>(wGet s h i).map (·.1)) k i=some rest)∧Hid (l=d0++rest)∧Hid (wr.ownsRow w.heap.size 3 1 p d0.length (d0.map fun x=> .int .i64 x))∧Below w.heap.size w wr)
  case atStart=>exact ⟨0,[],l,rfl,by omega,by omega,rfl,by simp,hr',Lib.hid rfl,Lib.hid (own_nil _ _ _ _),hB⟩
  case round=>
    clear hA hB hr'
    obtain ⟨i,d0,rest,rfl,hi0,hi1,hdl,hk,He,Hl,Hown,hB0⟩:=hrel
    have hA:=hA0.out.below hB0
    by_cases hlt:i<wLen s h
    · have d1:decide (i<wLen s h)=true:=by simpa using hlt
      obtain ⟨k,rfl⟩: ∃k,gk=k+1:=⟨gk - 1,by omega⟩
      have he:=He.out
      unfold eachO at he
      obtain ⟨x,hx,he⟩:=Option.bind_eq_some_iff.1 he
      obtain ⟨rest',he',hrest⟩:=Option.bind_eq_some_iff.1 he
      obtain ⟨g,hg,hgx⟩:=Option.map_eq_some_iff.1 hx
      have hrest:=Option.some.inj hrest
      have hlx:l.length=d0.length+(1+rest'.length):=by rw [Hl.out,←hrest];simp;omega
      have Hg:=Lib.hid hg
      have Hx:=Lib.hid hgx
      have He':=Lib.hid he'
      have Hl':Hid (l=(d0++[x])++rest'):=Lib.hid (by rw [Hl.out,←hrest];simp)
      clear He Hl he hx he' hrest hg hgx
      have hw0:=hB0.size
      have HB0:=Lib.hid hB0;clear hB0
      have hB:=Below.refl wr.heap.size wr
      go_wp2_with fail
      refine cg fun V2 hV_V2=> ?_
      refine nea0 hV_V2 hA hB ?_;clear hA hB;intro z_V2 hA hB
      clear hV_V2
      refine rC (wGet_calls _ _ g Hg.out _ hA) fun W2 hb_W2=> ?_
      refine bea0 hb_W2 hA hB ?_;clear hb_W2 hA hB;intro z_W2 hA hB
      have Hbl:=Lib.hid (below_step HB0.out hB)
      have hown:=own_below Hown.out hB
      clear Hown
      go_wp2_with (at_builtin;refine wpList_push _ (by rfl) _ _ 43 (by rfl) (w.heap.size) 3 (.int .i64 0) 1 8 Tryz.underlying43 (by kernel_rfl) (by rfl) (by omega) _ _ _ (by rfl) hown _ (by rfl) (by rfl) (by simp [Value.oneCell']) (by unfold maxLen;omega) (by omega) (by omega) ?_;intro g_W c_W W3 hown_W hlow_W hlt_W)
      have h1:wrap64 (i+1)=i+1:=IntWalk.wrap64_in _ (by omega)
      go_wp2_with fail
      go_roundg k
      case measure=>omega
      case rel=>
        refine ⟨i+1,d0++[x],rest',by rw [←h1],by omega,by omega,by simp;omega,by omega,He',Hl',?_,low_step Hbl.out (by omega) hlow_W⟩
        rw [List.map_append,List.length_append,←Hx.out]
        exact Lib.hid hown_W
    · have d1:decide (i<wLen s h)=false:=by simpa using hlt
      obtain rfl:gk=0:=by omega
      have he:=He.out
      unfold eachO at he
      obtain rfl:=Option.some.inj he
      have hl2:=Hl.out
      simp only [List.append_nil] at hl2
      have hn:d0.length=l.length:=by rw [hl2]
      clear He Hl he
      go_wp2_with fail
      go_ret
      refine ⟨u5,rfl,?_,hB0⟩
      rw [hl2];exact Hown.out
end
section
open Go.RowKit
theorem wpList_push2 {P : Program} {ops : Array Oper} {rest : List Oper} {o : Oper} {a : Act} {Q : Exit → Act → World → Prop} (w : World) (hgd : o.guard = none) (s x : Operand) (t : TypeId)
    (ho:o.op= .call {callee:= .builtin .append,args:= #[s,x],argTypes:= #[t,t]})
    (base:Nat) (e:TypeId) (z:Value) (size bytes:Nat) (ht:P.underlying t=some (.slice e)) (hi:(P.info? e).map (fun i=>(i.zero,i.size,i.bytes))=some (some z,size,bytes))
    (hzs:z.cells.size=size) (hsz:0<size) (v:Value) (n:Nat) (xs:List Value) (hs:a.eval s=v) (hown:w.ownsRow base e size v n xs)
    (news:Array Value) (hl:news.size=size) (hx:a.eval x= .slice (some ⟨w.heap.size,0,none⟩) 1 1) (h1: ∀u∈news.toList,u.oneCell'=true) (h63:n+1≤maxLen) (hbytes:(n+1)*bytes≤140737488355328) (hbase:base≤w.heap.size)
    (h: ∀g cap w',w'.ownsRow base e size (.slice (some ⟨g,0,none⟩) (n+1) cap) (n+1) (xs++news.toList)→Below base w w'→g<w'.heap.size→w.grownBy w' v.ownBlock→(v.ownBlock=some g∨w.heap.size≤g)→wpList P ops Q rest (a.put o.dst (.slice (some ⟨g,0,none⟩) (n+1) cap)) w'):
    wpList P ops Q (o::rest) a (w.alloc (.cells news e)):=by
  obtain ⟨i0,hi0,hz0,hz1,hz2⟩:=info_parts hi
  refine wpList_append_lies _ hgd s x t ho base e i0 z size bytes ht hi0 hz0 hz1 hz2 hzs hsz v n xs hs (hown.alloc _) ⟨w.heap.size,0,none⟩ 1 1 news.toList hx (by simpa using hl) ?_ h1 (by omega) h63 hbytes (by simp;omega) (w.heap.size+1) (by simp) ?_
  · intro j u hu
    have hk:=cells_of (blk_new w (.cells news e) w.heap.size rfl) j
    rw [show (⟨w.heap.size,0,none⟩:Addr).add j=⟨w.heap.size,j,none⟩ by unfold Addr.add;split<;>simp_all]
    rw [hk];simpa using hu
  · intro g cap w' h2 hg hat hlt
    have h0:=World.grownBy_alloc w (.cells news e) v.ownBlock
    refine h g cap w' h2 ?_ hlt ⟨hg.os.trans h0.os,hg.tape.trans h0.tape,hg.output.trans h0.output,Nat.le_trans h0.size hg.size,fun k hk hne=>(hg.block k (Nat.lt_of_lt_of_le hk h0.size) hne).trans (h0.block k hk hne)⟩ (hat.imp id fun q=>by omega)
    refine ((Below.refl base w).alloc hbase _).grown hg (by simp;omega) ?_
    intro k hk
    rcases hown.2 with ⟨rfl,_⟩|⟨g',cap',cur,rfl,hge,_⟩
    · simp [Value.ownBlock] at hk
    · simp [Value.ownBlock] at hk;omega
theorem step_push2 {P : Program} {ops : Array Oper} {o : Oper} {a : Act} {K : Act → World → Prop} {Q : Exit → Act → World → Prop} {E : Prop} (w : World) (hwant : Region.wanted o (yielded ops a.tmps) = true) (s x : Operand) (t : TypeId)
    (ho:o.op= .call {callee:= .builtin .append,args:= #[s,x],argTypes:= #[t,t]})
    (base:Nat) (e:TypeId) (z:Value) (size bytes:Nat) (ht:P.underlying t=some (.slice e)) (hi:(P.info? e).map (fun i=>(i.zero,i.size,i.bytes))=some (some z,size,bytes))
    (hzs:z.cells.size=size) (hsz:0<size) (v:Value) (n:Nat) (xs:List Value) (hs:a.eval s=v) (hown:w.ownsRow base e size v n xs)
    (news:Array Value) (hl:news.size=size) (hx:a.eval x= .slice (some ⟨w.heap.size,0,none⟩) 1 1) (h1: ∀u∈news.toList,u.oneCell'=true) (h63:n+1≤maxLen) (hbytes:(n+1)*bytes≤140737488355328) (hbase:base≤w.heap.size)
    (h: ∀g cap w',w'.ownsRow base e size (.slice (some ⟨g,0,none⟩) (n+1) cap) (n+1) (xs++news.toList)→Below base w w'→g<w'.heap.size→w.grownBy w' v.ownBlock→(v.ownBlock=some g∨w.heap.size≤g)→K (a.put o.dst (.slice (some ⟨g,0,none⟩) (n+1) cap)) w'):
    if Region.wanted o (yielded ops a.tmps)=true then Oper.wp P o a (w.alloc (.cells news e)) K Q else E:=by
  rw [if_pos hwant]
  obtain ⟨i0,hi0,hz0,hz1,hz2⟩:=info_parts hi
  refine wp_append_lies _ s x t ho base e i0 z size bytes ht hi0 hz0 hz1 hz2 hzs hsz v n xs hs (hown.alloc _) ⟨w.heap.size,0,none⟩ 1 1 news.toList hx (by simpa using hl) ?_ h1 (by omega) h63 hbytes (by simp;omega) (w.heap.size+1) (by simp) ?_
  · intro j u hu
    have hk:=cells_of (blk_new w (.cells news e) w.heap.size rfl) j
    rw [show (⟨w.heap.size,0,none⟩:Addr).add j=⟨w.heap.size,j,none⟩ by unfold Addr.add;split<;>simp_all]
    rw [hk];simpa using hu
  · intro g cap w' h2 hg hat hlt
    have h0:=World.grownBy_alloc w (.cells news e) v.ownBlock
    refine h g cap w' h2 ?_ hlt ⟨hg.os.trans h0.os,hg.tape.trans h0.tape,hg.output.trans h0.output,Nat.le_trans h0.size hg.size,fun k hk hne=>(hg.block k (Nat.lt_of_lt_of_le hk h0.size) hne).trans (h0.block k hk hne)⟩ (hat.imp id fun q=>by omega)
    refine ((Below.refl base w).alloc hbase _).grown hg (by simp;omega) ?_
    intro k hk
    rcases hown.2 with ⟨rfl,_⟩|⟨g',cap',cur,rfl,hge,_⟩
    · simp [Value.ownBlock] at hk
    · simp [Value.ownBlock] at hk;omega
structure Ow2 (w:World) (base:Nat) (e1:TypeId) (s1:Nat) (v1:Value) (n1:Nat) (x1:List Value) (e2:TypeId) (s2:Nat) (v2:Value) (n2:Nat) (x2:List Value):Prop where
  a:w.ownsRow base e1 s1 v1 n1 x1
  b:w.ownsRow base e2 s2 v2 n2 x2
  ne: ∀k,v1.ownBlock=some k→v2.ownBlock≠some k
section
variable {w w' : World} {base : Nat} {e1 e2 : TypeId} {s1 s2 n1 n2 : Nat} {v1 v2 : Value} {x1 x2 : List Value}
theorem Ow2.nil (w:World) (base:Nat) (e1:TypeId) (s1:Nat) (e2:TypeId) (s2:Nat):Ow2 w base e1 s1 (.slice none 0 0) 0 [] e2 s2 (.slice none 0 0) 0 []:=⟨own_nil _ _ _ _,own_nil _ _ _ _,fun k h=>by simp [Value.ownBlock] at h⟩
theorem Ow2.below (h:Ow2 w base e1 s1 v1 n1 x1 e2 s2 v2 n2 x2) (hb:Below w.heap.size w w'):Ow2 w' base e1 s1 v1 n1 x1 e2 s2 v2 n2 x2:=⟨own_below h.a hb,own_below h.b hb,h.ne⟩
theorem Ow2.swap (h:Ow2 w base e1 s1 v1 n1 x1 e2 s2 v2 n2 x2):Ow2 w base e2 s2 v2 n2 x2 e1 s1 v1 n1 x1:=⟨h.b,h.a,fun k h2 h1=>h.ne k h1 h2⟩
theorem Ow2.push (h:Ow2 w base e1 s1 v1 n1 x1 e2 s2 v2 n2 x2) {g c m:Nat} {x:List Value} (ho:w'.ownsRow base e1 s1 (.slice (some ⟨g,0,none⟩) m c) m x) (hg:w.grownBy w' v1.ownBlock) (hat:v1.ownBlock=some g∨w.heap.size≤g):Ow2 w' base e1 s1 (.slice (some ⟨g,0,none⟩) m c) m x e2 s2 v2 n2 x2:=by
  refine ⟨ho,h.b.kept hg ?_,fun k hk h2=> ?_⟩
  · cases h2:v2.ownBlock with
    | none=>exact .inl rfl
    | some k=>exact .inr fun e=>h.ne k e.symm h2
  · simp [Value.ownBlock] at hk
    subst hk
    rcases hat with hat|hat
    · exact h.ne g hat h2
    · have:=(h.b.lt g h2).2;omega
end
end
section
open Go.RowKit
attribute [local go_sem ↓] Go.wp_at_zero Go.wp_at_succ
variable {ap : Value} {s : Ar} {O : Nat → Prop}
theorem str_lenU (l:List UInt8) (w:World):(Builtin.len_ #[9] 3 #[.string ⟨l.toArray⟩]).run Tryz.prog w= .ok (.int .i64 (l.length:Int)) w:=str_len l w
def DRows (w:World) (base:Nat) (p1 p2:Value) (ds:Docs):Prop:=Ow2 w base 9 1 p1 ds.length ((ds.map (·.2)).map strOf) 140 2 p2 ds.length (itemCells (docsM ds))
def RRows (w:World) (base:Nat) (p1 p2:Value) (rate:Int) (ds:Docs) (R:List (Nat×Nat)):Prop:=Ow2 w base 4 1 p1 R.length ((R.map (mkR rate)).map fun x=> .bool x) 140 2 p2 (R.filter (mkR rate)).length (itemCells ((R.filter (mkR rate)).map (spR ds)))
theorem own_kept2 {w w' w3:World} {base n:Nat} {e:TypeId} {size:Nat} {v v1:Value} {xs:List Value} (h:w.ownsRow base e size v n xs) (hb:Below w.heap.size w w') (hg:w'.grownBy w3 v1.ownBlock) (hne: ∀k,v1.ownBlock=some k→v.ownBlock≠some k):w3.ownsRow base e size v n xs:=by
  refine (own_below h hb).kept hg ?_
  cases h2:v.ownBlock with
  | none=>exact .inl rfl
  | some k=>exact .inr fun e=>hne k e.symm h2
theorem docsM_snoc (ds:Docs) (d:Int×List UInt8):docsM (ds++[d])=docsM ds++[(d.1,(d.2.length:Int))]:=by unfold docsM;simp
section
attribute [local go_sem] str_lenU
theorem check_no (root rate : Int) (vl : Value) (h : ¬ (vIs s root = true ∧ 1 ≤ rate ∧ rate ≤ 16)) (w : World) (hA : AP w ap s O) :
    Calls Tryz.prog 35 #[ap, .int .i64 root, .int .i64 rate,vl] w fun e w'=>e= .returned (.bool false)∧Below w.heap.size w w':=by
  cases hv:vIs s root with
  | false=>
    go_enter Tryz.func35,Tryz.ntmps35
    go_wp2_with fail
    refine cg fun V hV_V=> ?_
    have hB:=Below.refl w.heap.size w
    refine nea0 hV_V hA hB ?_;clear hA hB;intro z_V hA hB
    clear hV_V
    refine rC (vOf_calls _ _ hA) fun W1 hb_W1=> ?_
    refine bea0 hb_W1 hA hB ?_;clear hb_W1 hA hB;intro z_W1 hA hB
    unfold Parts.val
    rw [hv]
    go_wp2_with fail
    go_ret
    exact ⟨rfl,bel⟩
  | true=>
    by_cases h1:rate<1
    · go_enter Tryz.func35,Tryz.ntmps35
      go_wp2_with fail
      refine cg fun V hV_V=> ?_
      have hB:=Below.refl w.heap.size w
      refine nea0 hV_V hA hB ?_;clear hA hB;intro z_V hA hB
      clear hV_V
      refine rC (vOf_calls _ _ hA) fun W1 hb_W1=> ?_
      refine bea0 hb_W1 hA hB ?_;clear hb_W1 hA hB;intro z_W1 hA hB
      unfold Parts.val
      rw [hv]
      go_wp2_with fail
      go_ret
      exact ⟨rfl,bel⟩
    · have h2 : 16 < rate := by
        rcases Int.lt_or_le 16 rate with h2|h2
        · exact h2
        · exact absurd ⟨hv,by omega,h2⟩ h
      go_enter Tryz.func35,Tryz.ntmps35
      go_wp2_with fail
      refine cg fun V hV_V=> ?_
      have hB:=Below.refl w.heap.size w
      refine nea0 hV_V hA hB ?_;clear hA hB;intro z_V hA hB
      clear hV_V
      refine rC (vOf_calls _ _ hA) fun W1 hb_W1=> ?_
      refine bea0 hb_W1 hA hB ?_;clear hb_W1 hA hB;intro z_W1 hA hB
      unfold Parts.val
      rw [hv]
      go_wp2_with fail
      go_ret
      exact ⟨rfl,bel⟩
theorem check_end (root rate : Int) (ds : Docs) (r : Bool) (hr : vCheck s root rate ds = some r) (h1 : vIs s root = true ∧ 1 ≤ rate ∧ rate ≤ 16) (h2 : refRight (txt ds) = true) :
    ∃a,lAll s (vOf s root).table=some a∧a.length≤50000∧((a==docsM ds)=false∧r=false∨(a==docsM ds)=true∧
      ∃b,wAll s (vOf s root).wave=some b∧b.length≤50000∧((b==symsM (txt ds))=false∧r=false∨(b==symsM (txt ds))=true∧
      ∃c,bAll s (vOf s root).marks=some c∧c.length≤50000∧((c==marksM rate (txt ds))=false∧r=false∨(c==marksM rate (txt ds))=true∧
      ∃d,lAll s (vOf s root).spots=some d∧d.length≤50000∧r=(d==spotsM rate ds)))):=by
  unfold vCheck at hr
  rw [if_pos h1,if_pos h2] at hr
  obtain ⟨a,ha,hr⟩:=Option.bind_eq_some_iff.1 hr
  by_cases la:a.length≤50000
  · rw [if_pos la] at hr
    refine ⟨a,ha,la,?_⟩
    cases ea:(a==docsM ds) with
    | false=>rw [ea,if_neg (by decide)] at hr;exact .inl ⟨rfl,(Option.some.inj hr).symm⟩
    | true=>
      rw [ea,if_pos rfl] at hr
      obtain ⟨b,hb,hr⟩:=Option.bind_eq_some_iff.1 hr
      by_cases lb:b.length≤50000
      · rw [if_pos lb] at hr
        refine .inr ⟨rfl,b,hb,lb,?_⟩
        cases eb:(b==symsM (txt ds)) with
        | false=>rw [eb,if_neg (by decide)] at hr;exact .inl ⟨rfl,(Option.some.inj hr).symm⟩
        | true=>
          rw [eb,if_pos rfl] at hr
          obtain ⟨c,hc,hr⟩:=Option.bind_eq_some_iff.1 hr
          by_cases lc:c.length≤50000
          · rw [if_pos lc] at hr
            refine .inr ⟨rfl,c,hc,lc,?_⟩
            cases ec:(c==marksM rate (txt ds)) with
            | false=>rw [ec,if_neg (by decide)] at hr;exact .inl ⟨rfl,(Option.some.inj hr).symm⟩
            | true=>
              rw [ec,if_pos rfl] at hr
              obtain ⟨d,hd,hr⟩:=Option.bind_eq_some_iff.1 hr
              by_cases ld:d.length≤50000
              · rw [if_pos ld] at hr
                exact .inr ⟨rfl,d,hd,ld,(Option.some.inj hr).symm⟩
              · rw [if_neg ld] at hr;cases hr
          · rw [if_neg lc] at hr;cases hr
      · rw [if_neg lb] at hr;cases hr
  · rw [if_neg la] at hr;cases hr
theorem check_yes (root rate : Int) (ds : Docs) (vl : Value) (r : Bool) (hr : vCheck s root rate ds = some r) (hc : vIs s root = true ∧ 1 ≤ rate ∧ rate ≤ 16) (hn : ds.length ≤ 50000) (h40 : ∀ t, t ∈ txt ds → t.length ≤ 50000) (w : World) (hA : AP w ap s O) (hd : Rd2 w vl ds) :
    Calls Tryz.prog 35 #[ap, .int .i64 root, .int .i64 rate,vl] w fun e w'=>e= .returned (.bool r)∧Below w.heap.size w w':=by
  obtain ⟨hv,hr1,hr2⟩:=hc
  have HR:=Lib.hid hr;have HN:=Lib.hid hn;have H40:=Lib.hid h40;have HV:=Lib.hid hv
  have HD:=Lib.hid hd
  have htl:(txt ds).length=ds.length:=by simp
  have HTL:=Lib.hid htl
  obtain ⟨A,cap,rfl, -⟩:=hd
  have r1:decide (rate<1)=false:=by simp;omega
  have r2:decide (16<rate)=false:=by simp;omega
  have r0:rate≠0:=by omega
  have HRT:=Lib.hid (And.intro hr1 hr2)
  clear hr hn h40 hr1 hr2 htl
  go_enter Tryz.func35,Tryz.ntmps35
  go_wp2_with fail
  refine cg fun V hV_V=> ?_
  have hB:=Below.refl w.heap.size w
  refine nea0 hV_V hA hB ?_;clear hA hB;intro z_V hA hB
  clear hV_V
  refine rC (vOf_calls _ _ hA) fun W1 hb_W1=> ?_
  refine bea0 hb_W1 hA hB ?_;clear hb_W1 hA hB;intro z_W1 hA hB
  unfold Parts.val
  rw [hv]
  have HW1:=hB.size
  go_wp2_with fail
  refine wg fun V1 hV_V1=> ?_
  refine nna0 hV_V1 hA hB ?_;clear hA hB;intro hn_V1 z_V1 hA hB
  obtain ⟨kp,c_kp,o_kp,l_kpV1⟩:=nN hn_V1 hV_V1 (W1.heap.size)
  clear hV_V1 hn_V1
  have HA1:=Lib.hid hA;have HB1:=Lib.hid hB;have KP:=Lib.hid kp;have HD1:=Lib.hid (HD.out.below hB)
  have hz1:=hB.size
  clear hA hB kp c_kp hv
  generalize hkb:W1.heap.size=kb at*
  go_loopg [11,12,38] ds.length (fun k p1 p2 q wr=> ∃i:Nat,q= .int .i64 (i:Int)∧i+k=ds.length∧Hid (DRows wr V1.heap.size p1 p2 (ds.take i))∧Hid (Below V1.heap.size V1 wr))
  case atStart=>exact ⟨0,rfl,by omega,Lib.hid (Ow2.nil _ _ _ _ _ _),Lib.hid (Below.refl _ _)⟩
  case round=>
    obtain ⟨i,rfl,hk,Hrow,HB⟩:=hrel
    have hw1:=HB.out.size
    by_cases hlt:i<ds.length
    · obtain ⟨k,rfl⟩: ∃k,gk=k+1:=⟨gk - 1,by omega⟩
      obtain ⟨d,hdi⟩:=at_some hlt
      obtain ⟨A',cap',hv,h2⟩:=HD1.out.below HB.out
      obtain ⟨ad,rfl,hg,hc⟩:=h2 (by omega)
      obtain ⟨rfl, -,rfl⟩:=Value.slice.inj hv
      obtain ⟨hlb,c1,c2⟩:=hc i d hdi
      have n1:decide ((i:Int)<(ds.length:Int))=true:=by simpa using hlt
      have n2:(i:Int)<(ds.length:Int):=by omega
      have hN:=HN.out
      have E3:=Lib.hid (step_wrap i 50000 (by omega) (by omega))
      have hi5:i≤50000:=by omega
      have htake:Hid (ds.take (i+1)=ds.take i++[d]):=Lib.hid (by rw [List.take_succ_eq_append_getElem hlt,(List.getElem_eq_iff hlt).2 hdi])
      have hil:(ds.take i).length=i:=by rw [List.length_take];omega
      have hR:=Hrow.out
      unfold DRows at hR
      rw [hil] at hR
      have HRow:=Lib.hid hR
      have HL1:=Lib.hid hR.a.lt;have HL2:=Lib.hid hR.b.lt
      have HNE:=Lib.hid hR.ne
      replace c2:wr.cell? ⟨(ad.add (i*2)).block,(ad.add (i*2)).off+1,none⟩=some (.string ⟨d.2.toArray⟩):=c2
      clear h2 hc hv hdi hR Hrow hil hN
      go_wp2_with (
        at_builtin
        first
        | (refine wpList_push2 _ (by rfl) _ _ 75 (by rfl) (V1.heap.size) 9 (.string ⟨#[]⟩) 1 16 Tryz.underlying75 (by kernel_rfl) (by rfl) (by omega) _ _ _ (by rfl) (own_below HRow.out.a (by (repeat' first | with_reducible assumption | with_reducible exact Below.refl _ _ | with_reducible refine Below.alloc ?_ ?_ _ | with_reducible refine Below.setCell ?_ ?_ _ | with_reducible refine below_drewN ?_ _ | with_reducible refine Below.drew ?_ | exact Nat.le_refl _ | ((try dsimp only); omega) | (simp only [siz_alloc, siz_set]; omega)))) _ (by rfl) (by rw [siz_alloc]; rfl) (by simp [Value.oneCell']) (by unfold maxLen; omega) (by omega) (by simp only [siz_alloc, siz_set]; omega) ?_
           intro g_W c_W W3 hown_W hlow_W hlt_W hgr_W hat_W
           have kd:=(hgr_W.block wr.heap.size (by rw [siz_alloc];omega) (fun e=>by have:=HL1.out _ e.symm;omega)).trans (blk_new wr _ _ rfl)
           have HHob:=Lib.hid (own_kept2 HRow.out.b (show Below wr.heap.size wr _ from bel) hgr_W HNE.out)
           have c_kd:=cells_of kd
           have f_kd:=free_of kd
           have l_kd:=lt_of kd
           have hz3:=hgr_W.size
           rw [siz_alloc] at hz3
           have HLow3:=Lib.hid (low_step HB.out (Nat.le_refl _) (Below.trans (bel) hlow_W))
           have Hown:=Lib.hid hown_W
           have Hgr:=Lib.hid hgr_W
           have Hat:=Lib.hid hat_W
           clear hown_W hgr_W hat_W hlow_W)
        | (refine wpList_push2 _ (by rfl) _ _ 146 (by rfl) (V1.heap.size) 140 (.agg #[.int .i64 0, .int .i64 0]) 2 16 Tryz.underlying146 (by kernel_rfl) (by rfl) (by omega) _ _ _ (by rfl) HHob.out _ (by rfl) (by rfl) (by simp [Value.oneCell']) (by unfold maxLen; omega) (by omega) (by omega) ?_
           intro g_X c_X W5 hown_X hlow_X hlt_X hgr_X hat_X
           have Hown2:=Lib.hid hown_X
           have Hgr2:=Lib.hid hgr_X
           have Hat2:=Lib.hid hat_X
           have HLow5:=Lib.hid hlow_X
           clear hown_X hgr_X hat_X hlow_X))
      go_wp2_with fail
      go_roundg k
      case measure=>omega
      case rel=>
        refine ⟨i+1,by first|rfl|(rw [E3.out];rfl),by omega,Lib.hid ?_,Lib.hid (low_step HLow3.out (Nat.le_refl _) HLow5.out)⟩
        have h3:=(HRow.out.below (show Below wr.heap.size wr _ from bel)).push Hown.out Hgr.out Hat.out
        have h5:=(h3.swap.push Hown2.out Hgr2.out Hat2.out).swap
        unfold DRows
        rw [htake.out,docsM_snoc,itemCells_append,List.map_append,List.map_append,List.length_append,List.length_take,Nat.min_eq_left (by omega)]
        exact h5
    · have hi:i=ds.length:=by omega
      have n1:decide ((i:Int)<(ds.length:Int))=false:=by simpa using hlt
      have hrow:=Hrow.out
      rw [hi,List.take_length] at hrow
      have HRW:=Lib.hid hrow
      clear hrow Hrow hk
      go_wp2_with fail
      refine (rowsSorted_calls _ (txt ds) (by rw [HTL.out];exact HN.out) _ (by rw [HTL.out];exact Rk.of_own HRW.out.a)).mono ?_
      rintro e2 W2 ⟨v2,rfl,hrk,hb2⟩
      have HX2:=Lib.hid (below_step HB.out hb2)
      have HRW2:=Lib.hid (Ow2.below HRW.out hb2)
      have hw2:=HX2.out.size
      obtain ⟨R,hR⟩: ∃R,R=refSorted (txt ds):=⟨_,rfl⟩
      rw [←hR] at hrk
      have hsm:R.length≤500:=by rw [hR];exact sorted_small _
      have Hval:Hid (∀x,x∈R→ ∃t,(txt ds)[x.1]? =some t∧x.2≤t.length):=Lib.hid (fun x hx=>sorted_valid (hR▸hx))
      have HRR:=Lib.hid hR
      have HRK:=Lib.hid hrk
      obtain ⟨-,A2,c2,rfl, -⟩:=hrk
      clear hR hb2 HB HRW n1 hi hlt
      go_wp2_with fail
      go_loopg [13,14,60] R.length (fun k p13 p14 q wr=> ∃i:Nat,q= .int .i64 (i:Int)∧i+k=R.length∧Hid (RRows wr W2.heap.size p14 p13 rate ds (R.take i))∧Hid (Below W2.heap.size W2 wr))
      case atStart=>exact ⟨0,rfl,by omega,Lib.hid (Ow2.nil _ _ _ _ _ _),Lib.hid (Below.refl _ _)⟩
      case round=>
        obtain ⟨i,rfl,hk,Hrow,HB⟩:=hrel
        have hwr:=HB.out.size
        by_cases hlt:i<R.length
        · obtain ⟨k,rfl⟩: ∃k,gk=k+1:=⟨gk - 1,by omega⟩
          obtain ⟨x,hx⟩:=at_some hlt
          obtain ⟨t,ht,hxt⟩:=Hval.out x (List.mem_of_getElem? hx)
          obtain ⟨-,A',cap',hv,h2⟩:=HRK.out.below HB.out
          obtain ⟨g1,cs1,T1,rfl,kg1,hcs1⟩:=h2 (by omega)
          obtain ⟨rfl, -,rfl⟩:=Value.slice.inj hv
          have c1a:cs1[i*2]? =some (.int .i64 (x.1:Int)):=(hcs1 _ (by omega)).trans (rowCells_at hx).1
          have c1b:cs1[i*2+1]? =some (.int .i64 (x.2:Int)):=(hcs1 _ (by omega)).trans (rowCells_at hx).2
          clear h2 hv hcs1
          have n1:decide ((i:Int)<(R.length:Int))=true:=by simpa using hlt
          have n2:(i:Int)<(R.length:Int):=by omega
          have E3:=Lib.hid (step_wrap i 500 (by omega) (by omega))
          have htake:Hid (R.take (i+1)=R.take i++[x]):=Lib.hid (by rw [List.take_succ_eq_append_getElem hlt,(List.getElem_eq_iff hlt).2 hx])
          have hil:(R.take i).length=i:=by rw [List.length_take];omega
          have hfl:((R.take i).filter (mkR rate)).length≤500:=by have:=List.length_filter_le (mkR rate) (R.take i);omega
          have hR:=Hrow.out
          unfold RRows at hR
          rw [hil] at hR
          have HRow:=Lib.hid hR
          have HL1:=Lib.hid hR.a.lt;have HL2:=Lib.hid hR.b.lt
          have HNE:=Lib.hid hR.ne
          clear hR Hrow hil
          by_cases hm:(x.2:Int) % rate=0
          · have m1:((x.2:Int) % rate==0)=true:=by rw [hm];rfl
            have hmk:Hid (mkR rate x=true):=Lib.hid (decide_eq_true hm)
            have hdx:x.1<ds.length:=by have:=(List.getElem?_eq_some_iff.1 ht).1;rw [HTL.out] at this;exact this
            obtain ⟨d,hdi⟩:=at_some hdx
            have Hsp:Hid (spR ds x=(d.1,(x.2:Int))):=Lib.hid (by unfold spR;simp [List.getD,hdi])
            have Hdi:=Lib.hid hdi
            have n3:(x.1:Int)<(ds.length:Int):=by omega
            clear hm hdi ht hxt
            have c_kg1:=f3 kg1;have l_kg1wr:=lt_of kg1
            go_wp2_with (
              at_builtin
              (refine wpList_push2 _ (by rfl) _ _ 128 (by rfl) (W2.heap.size) 4 (.bool false) 1 1 Tryz.underlying128 (by kernel_rfl) (by rfl) (by omega) _ _ _ (by rfl) (own_below HRow.out.a (bel)) _ (by rfl) (by rw [siz_alloc];rfl) (by simp [Value.oneCell']) (by unfold maxLen;omega) (by omega) (by simp only [siz_alloc,siz_set];omega) ?_
               intro g_W c_W W3 hown_W hlow_W hlt_W hgr_W hat_W
               have kr:=(hgr_W.block wr.heap.size (by rw [siz_alloc];omega) (fun e=>by have:=HL1.out _ e.symm;omega)).trans (blk_new wr _ _ rfl)
               have h3:=Lib.hid ((HRow.out.below (show Below wr.heap.size wr _ from bel)).push hown_W hgr_W hat_W)
               have HLow3:=Lib.hid (low_step HB.out (Nat.le_refl _) (Below.trans (bel) hlow_W))
               have hz3:=hgr_W.size
               rw [siz_alloc] at hz3
               clear hown_W hgr_W hat_W hlow_W))
            go_wp2_with fail
            refine wp_gen fun V3 hV3=> ?_
            have hb3:Below W3.heap.size W3 V3:=by rw [hV3];(repeat' first|with_reducible assumption|with_reducible exact Below.refl _ _|with_reducible refine Below.alloc ?_ ?_ _|with_reducible refine Below.setCell ?_ ?_ _|with_reducible refine below_drewN ?_ _|with_reducible refine Below.drew ?_|exact Nat.le_refl _|((try dsimp only);omega)|(simp only [siz_alloc,siz_set];omega))
            clear hV3
            have hzv:=hb3.size
            have HX3:=Lib.hid (below_step HX2.out HLow3.out)
            have HX4:=Lib.hid (below_step HX3.out hb3)
            obtain ⟨ad,hvl,hlb,c1d⟩: ∃ad,A=some ad∧(ad.add (x.1*2)).block<W2.heap.size∧V3.cell? (ad.add (x.1*2))=some (.int .i64 d.1):=by
              obtain ⟨A',cap',hv,h2⟩:=HD1.out
              obtain ⟨ad,rfl,hg,hc⟩:=h2 (by omega)
              obtain ⟨rfl, -, -⟩:=Value.slice.inj hv
              obtain ⟨q1,q2, -⟩:=hc x.1 d Hdi.out
              exact ⟨ad,rfl,by omega,(HX4.out.cell (by exact q1)).trans q2⟩
            subst hvl
            replace kr:=keep_blk hb3 kr
            have H3:=Lib.hid (h3.out.below hb3)
            have HLow4:=Lib.hid (low_step HLow3.out (Nat.le_refl _) (hb3.mono (by have:=HLow3.out.size;omega)))
            have hL3:=H3.out.b.lt
            have HLb:=Lib.hid hlb
            clear hb3 c_kg1 kg1
            have c_kr:=f3 kr;have l_krV3:=lt_of kr
            have hadb:V3.heap.size≥W2.heap.size:=by have:=HLow4.out.size;omega
            refine wp_region_noPanic ?_
            refine wp_region_held_drew (S:=fun v=>(v.cell? (ad.add (x.1*2))=some (.int .i64 d.1))∧(∀o,v.cell? ⟨wr.heap.size,o,none⟩=V3.cell? ⟨wr.heap.size,o,none⟩)∧Below W2.heap.size V3 v) (by kernel_rfl) ⟨c1d,fun _=>rfl,(Below.refl _ _).drew⟩ (fun hHeld=> ?_)
            have hB_d:Below V3.heap.size V3 V3.drew:=(Below.refl _ _).drew
            generalize V3.drew=V3d at hHeld hB_d⊢
            refine ta 0 hHeld ?_
            refine ta 1 hHeld ?_
            refine ta 2 hHeld ?_
            refine ta 3 hHeld ?_
            refine ta 4 hHeld ?_
            refine ta 5 hHeld ?_
            refine ta 6 hHeld ?_
            refine ta 7 hHeld ?_
            refine ta 8 hHeld ?_
            refine ta 9 hHeld ?_
            have hown3:=Lib.hid (own_below H3.out.b hB_d)
            have hH3d:=Lib.hid (Ow2.below H3.out hB_d)
            have hlow3d:=Lib.hid hHeld.2.2
            have heq3:=Lib.hid hHeld.2.1
            have hz3d:=hB_d.size
            have hS: ∀v,(∀o,v.cell? ⟨wr.heap.size,o,none⟩=V3.cell? ⟨wr.heap.size,o,none⟩)→Below W2.heap.size V3 v→((v.cell? (ad.add (x.1*2))=some (.int .i64 d.1))∧(∀o,v.cell? ⟨wr.heap.size,o,none⟩=V3.cell? ⟨wr.heap.size,o,none⟩)∧Below W2.heap.size V3 v):=fun v h1 h2=>⟨(h2.cell (by exact hlb)).trans c1d,h1,h2⟩
            have HS:=Lib.hid hS
            clear c1d hS
            refine rd 10 rfl fun K hK=> ?_
            go_simp
            refine ho hK (HS.out _ (fun o=>(((Below.refl V3d.heap.size V3d).alloc (Nat.le_refl _) _).cell (by show wr.heap.size<V3d.heap.size;omega)).trans (heq3.out o)) (hlow3d.out.alloc (by omega) _)) fun hHeld=> ?_
            clear hK K
            refine rd 11 rfl fun K hK=> ?_
            refine step_push2 _ (by rfl) _ _ 146 (by rfl) (W2.heap.size) 140 (.agg #[.int .i64 0, .int .i64 0]) 2 16 Tryz.underlying146 (by kernel_rfl) (by rfl) (by omega) _ _ _ (by rfl) hown3.out _ (by rfl) (by rfl) (by simp [Value.oneCell']) (by unfold maxLen;omega) (by omega) (by omega) ?_
            intro g_X c_X W5 hown_X hlow_X hlt_X hgr_X hat_X
            refine ho hK (HS.out _ (fun o=>(World.cell?_of_block (hgr_X.block wr.heap.size (by omega) (fun e=>by have:=HL2.out _ e.symm;omega))).trans (heq3.out o)) (hlow3d.out.trans hlow_X)) fun hHeld=> ?_
            clear hK K
            refine rd 12 rfl fun K hK=> ?_
            go_simp
            refine ho hK hHeld fun hHeld=> ?_
            clear hK K
            refine wpAnyH_done (by kernel_rfl) ?_ _
            refine NoPanic.normal ?_
            have H5:=Lib.hid (hH3d.out.swap.push hown_X hgr_X hat_X).swap
            have HLow5:=Lib.hid (low_step (low_step HLow4.out (Nat.le_refl _) hlow3d.out) (Nat.le_refl _) hlow_X)
            clear hHeld hown_X hlow_X hgr_X hat_X
            go_wp2_with fail
            go_roundg k
            case measure=>omega
            case rel=>
              refine ⟨i+1,by first|rfl|(rw [E3.out];rfl),by omega,Lib.hid ?_,HLow5⟩
              have h5:=H5.out
              unfold RRows
              have e1:[x].map (spR ds)=[(d.1,(x.2:Int))]:=by rw [List.map_cons,List.map_nil,Hsp.out]
              have e2:[x].map (mkR rate)=[true]:=by rw [List.map_cons,List.map_nil,hmk.out]
              rw [htake.out,List.map_append,e2,List.map_append,List.filter_append,List.filter_cons_of_pos (by rw [hmk.out]),List.filter_nil,List.map_append,e1,itemCells_append,List.length_append,List.length_append,List.length_take,Nat.min_eq_left (by omega)]
              exact h5
          · have m1:((x.2:Int) % rate==0)=false:=by rw [beq_eq_false_iff_ne];exact hm
            have hmk:Hid (mkR rate x=false):=Lib.hid (decide_eq_false hm)
            clear hm
            have c_kg1:=f3 kg1;have l_kg1wr:=lt_of kg1
            go_wp2_with (
              at_builtin
              (refine wpList_push2 _ (by rfl) _ _ 128 (by rfl) (W2.heap.size) 4 (.bool false) 1 1 Tryz.underlying128 (by kernel_rfl) (by rfl) (by omega) _ _ _ (by rfl) (own_below HRow.out.a (bel)) _ (by rfl) (by rw [siz_alloc];rfl) (by simp [Value.oneCell']) (by unfold maxLen;omega) (by omega) (by simp only [siz_alloc,siz_set];omega) ?_
               intro g_W c_W W3 hown_W hlow_W hlt_W hgr_W hat_W))
            go_wp2_with fail
            go_roundg k
            case measure=>omega
            case rel=>
              refine ⟨i+1,by first|rfl|(rw [E3.out];rfl),by omega,Lib.hid ?_,Lib.hid (low_step HB.out (Nat.le_refl _) (Below.trans (bel) hlow_W))⟩
              have h3:=(HRow.out.below (show Below wr.heap.size wr _ from bel)).push hown_W hgr_W hat_W
              unfold RRows
              rw [htake.out,List.map_append,List.map_append,List.filter_append,List.filter_cons_of_neg (by rw [hmk.out];decide),List.filter_nil,List.append_nil,List.length_append,List.length_take,Nat.min_eq_left (by omega),List.map_cons,hmk.out]
              exact h3
        · have hi:i=R.length:=by omega
          have n1:decide ((i:Int)<(R.length:Int))=false:=by simpa using hlt
          have hrow:=Hrow.out
          rw [hi,List.take_length] at hrow
          have HRM:=Lib.hid hrow
          have hBw:=below_step HX2.out HB.out
          have hA:=HA1.out.below hBw
          have kp:=keep_blk hBw KP.out
          have HBW:=Lib.hid (below_step HB1.out hBw)
          have HDW:=Lib.hid (Ow2.below HRW2.out HB.out)
          have hdl:(docsM ds).length=ds.length:=by unfold docsM;simp
          have hHN:=HN.out
          have Rt:Hid (Rk wr 1 u11 (txt ds).length ((txt ds).map strOf)):=Lib.hid (by rw [HTL.out];exact Rk.of_own HDW.out.a)
          clear hrow Hrow hBw HB
          have hB:=Below.refl wr.heap.size wr
          have c_kp:=f3 kp;have l_kpwr:=lt_of kp
          go_wp2_with fail
          refine rC (rowsRight_calls _ (txt ds) (by rw [HTL.out];exact HN.out) _ Rt.out) fun W5 hb_W5=> ?_
          refine bea1 hb_W5 hA hB kp ?_;clear hb_W5 hA hB kp c_kp;intro z_W5 hA hB kp c_kp
          have hr:=HR.out
          cases hrt:refRight (txt ds) with
          | false=>
            have hrf:r=false:=by
              unfold vCheck at hr
              rw [if_pos ⟨HV.out,HRT.out.1,HRT.out.2⟩,hrt,if_neg (by decide)] at hr
              exact (Option.some.inj hr).symm
            subst hrf
            go_wp2_with fail
            go_ret
            exact ⟨rfl,below_step HBW.out hB⟩
          | true=>
            obtain ⟨a,ha,la,hcase⟩:=check_end root rate ds r hr ⟨HV.out,HRT.out.1,HRT.out.2⟩ hrt
            have HC:=Lib.hid hcase
            clear hr hcase hrt
            go_wp2_with fail
            refine (lAll_calls _ a ha la _ hA).mono ?_
            rintro e_W6 W6 ⟨v6,rfl,hown6,hb_W6⟩
            refine bea1 hb_W6 hA hB kp ?_;clear hb_W6 hA hB kp c_kp;intro z_W6 hA hB kp c_kp
            have HX6:=Lib.hid (Rx.of_own hown6)
            have HDB:=Lib.hid ((Rx.of_own HDW.out.b).below hB)
            clear hown6
            go_wp2_with fail
            refine rC (eqItem_calls _ _ a (docsM ds) la (by omega) _ HX6.out (by rw [hdl];exact HDB.out)) fun W7 hb_W7=> ?_
            refine bea1 hb_W7 hA hB kp ?_;clear hb_W7 hA hB kp c_kp;intro z_W7 hA hB kp c_kp
            rcases HC.out with ⟨e,rfl⟩|⟨e,b,hb,lb,hcase⟩
            · rw [e]
              clear e HC
              go_wp2_with fail
              go_ret
              exact ⟨rfl,below_step HBW.out hB⟩
            rw [e]
            have HC2:=Lib.hid hcase
            clear e HC hcase
            go_wp2_with fail
            refine (wAll_calls _ b hb lb _ hA).mono ?_
            rintro e_W8 W8 ⟨v8,rfl,hown8,hb_W8⟩
            refine bea1 hb_W8 hA hB kp ?_;clear hb_W8 hA hB kp c_kp;intro z_W8 hA hB kp c_kp
            have HX8:=Lib.hid (Rx.of_own hown8)
            clear hown8
            go_wp2_with fail
            refine (rowsSymbols_calls _ (txt ds) (by rw [HTL.out];exact HN.out) H40.out _ (Rt.out.below hB)).mono ?_
            rintro e9 W9 ⟨v9,rfl,hown9,hb9⟩
            have HX9:=Lib.hid (HX8.out.below hb9)
            have HY9:=Lib.hid (Rx.of_own hown9)
            replace hA:=hA.below hb9
            replace hB:=below_step hB hb9
            replace kp:=keep_blk hb9 kp
            clear hb9 hown9 c_kp
            have c_kp:=f3 kp;have l_kpW9:=lt_of kp
            have hsy:((refSorted (txt ds)).map (symOf (txt ds))).length≤50000:=by rw [List.length_map];have:=sorted_small (txt ds);omega
            have HY9':Hid (Rx W9 1 v9 ((refSorted (txt ds)).map (symOf (txt ds))).length (((refSorted (txt ds)).map (symOf (txt ds))).map fun x=> .int .i64 x)):=Lib.hid (by rw [List.length_map];exact HY9.out)
            go_wp2_with fail
            refine rC (eqInt_calls _ _ b ((refSorted (txt ds)).map (symOf (txt ds))) lb hsy _ HX9.out HY9'.out) fun W10 hb_W10=> ?_
            refine bea1 hb_W10 hA hB kp ?_;clear hb_W10 hA hB kp c_kp;intro z_W10 hA hB kp c_kp
            rcases HC2.out with ⟨e,rfl⟩|⟨e,c,hcc,lc,hcase⟩
            · unfold symsM at e
              rw [e]
              clear e HC2
              go_wp2_with fail
              go_ret
              exact ⟨rfl,below_step HBW.out hB⟩
            unfold symsM at e
            rw [e]
            have HC3:=Lib.hid hcase
            clear e HC2 hcase
            go_wp2_with fail
            refine (bAll_calls _ c hcc lc _ hA).mono ?_
            rintro e_W11 W11 ⟨v11,rfl,hown11,hb_W11⟩
            refine bea1 hb_W11 hA hB kp ?_;clear hb_W11 hA hB kp c_kp;intro z_W11 hA hB kp c_kp
            have HX11:=Lib.hid (Rx.of_own hown11)
            have HRA:Hid (Rx W11 1 u14 (marksM rate (txt ds)).length ((marksM rate (txt ds)).map fun x=> .bool x)):=Lib.hid (by
              unfold marksM;rw [←HRR.out,List.length_map];exact (Rx.of_own HRM.out.a).below hB)
            have hml:(marksM rate (txt ds)).length≤50000:=by unfold marksM;rw [List.length_map];have:=sorted_small (txt ds);omega
            clear hown11
            go_wp2_with fail
            refine rC (eqBool_calls _ _ c (marksM rate (txt ds)) lc hml _ HX11.out HRA.out) fun W12 hb_W12=> ?_
            refine bea1 hb_W12 hA hB kp ?_;clear hb_W12 hA hB kp c_kp;intro z_W12 hA hB kp c_kp
            rcases HC3.out with ⟨e,rfl⟩|⟨e,d,hdd,ld,hrr⟩
            · rw [e]
              clear e HC3
              go_wp2_with fail
              go_ret
              exact ⟨rfl,below_step HBW.out hB⟩
            rw [e]
            have HC4:=Lib.hid hrr
            clear e HC3 hrr
            go_wp2_with fail
            refine (lAll_calls _ d hdd ld _ hA).mono ?_
            rintro e_W13 W13 ⟨v13,rfl,hown13,hb_W13⟩
            refine bea1 hb_W13 hA hB kp ?_;clear hb_W13 hA hB kp c_kp;intro z_W13 hA hB kp c_kp
            have HX13:=Lib.hid (Rx.of_own hown13)
            have HRB:Hid (Rx W13 2 u13 (spotsM rate ds).length (itemCells (spotsM rate ds))):=Lib.hid (by
              unfold spotsM;rw [←HRR.out,List.length_map];exact (Rx.of_own HRM.out.b).below hB)
            have hsl:(spotsM rate ds).length≤50000:=by unfold spotsM;rw [List.length_map];have h1:=sorted_small (txt ds);have h2:=List.length_filter_le (mkR rate) (refSorted (txt ds));omega
            clear hown13
            go_wp2_with fail
            refine rC (eqItem_calls _ _ d (spotsM rate ds) ld hsl _ HX13.out HRB.out) fun W14 hb_W14=> ?_
            refine bea1 hb_W14 hA hB kp ?_;clear hb_W14 hA hB kp c_kp;intro z_W14 hA hB kp c_kp
            go_wp2_with fail
            go_ret
            exact ⟨congrArg (fun b=>Ending.returned (.bool b)) HC4.out.symm,below_step HBW.out hB⟩
theorem check_calls (root rate : Int) (ds : Docs) (vl : Value) (r : Bool) (hr : vCheck s root rate ds = some r) (hn : ds.length ≤ 50000) (h40 : ∀ t, t ∈ txt ds → t.length ≤ 50000) (w : World) (hA : AP w ap s O) (hd : Rd2 w vl ds) :
    Calls Tryz.prog 35 #[ap, .int .i64 root, .int .i64 rate,vl] w fun e w'=>e= .returned (.bool r)∧Below w.heap.size w w':=by
  by_cases hc:vIs s root=true∧1≤rate∧rate≤16
  · exact check_yes root rate ds vl r hr hc hn h40 w hA hd
  · have : r = false := by
      unfold vCheck at hr
      rw [if_neg hc] at hr
      exact (Option.some.inj hr).symm
    rw [this]
    exact check_no root rate vl hc w hA
end
end
section
open Go.RowKit
attribute [local go_sem ↓] Go.wp_at_zero Go.wp_at_succ
attribute [local go_sem] str_len
def okP (x:Pt):Bool:=decide (-1≤x.pos)&&(decide (x.pos≤x.text.length)&&(decide (x.text.length≤50000)&&decide (1≤x.rate)))
theorem okP_ok {x:Pt} (h:okP x=true):PtOk x:=by
  unfold okP at h
  simp only [Bool.and_eq_true,decide_eq_true_eq] at h
  exact ⟨h.1,h.2.1,h.2.2.1,h.2.2.2⟩
def aliveP:Option (Bool×Bool):=
  (Pt.new (Ar.new 2000) 0 2 1 [97]).step.bind fun r1=>r1.2.2.step.bind fun r2=>r2.2.2.step.bind fun r3=>r3.2.2.step.bind fun r4=>
  (vCheck r4.2.2.s r4.2.2.root 2 [(1,[97])]).map fun c=>(okP r1.2.2&&(okP r2.2.2&&okP r3.2.2),!r1.1&&(!r2.1&&(!r3.1&&(r4.1&&(decide (r1.2.1=0)&&(decide (r2.2.1=0)&&(decide (r3.2.1=0)&&(decide (r4.2.1=0)&&(c&&decide (r4.2.2.left=0))))))))))
theorem aliveP_eq:aliveP=some (true,true):=by decide+kernel
theorem alive_steps: ∃x:Nat→Pt,x 0=Pt.new (Ar.new 2000) 0 2 1 [97]∧(∀k,k<4→PtOk (x k)∧(x k).step=some (decide (k=3),0,x (k+1)))∧vCheck (x 4).s (x 4).root 2 [(1,[97])]=some true∧(x 4).left=0:=by
  have hm:=aliveP_eq
  unfold aliveP at hm
  obtain ⟨⟨o1,f1,x1⟩,h1,hm⟩:=Option.bind_eq_some_iff.1 hm
  obtain ⟨⟨o2,f2,x2⟩,h2,hm⟩:=Option.bind_eq_some_iff.1 hm
  obtain ⟨⟨o3,f3,x3⟩,h3,hm⟩:=Option.bind_eq_some_iff.1 hm
  obtain ⟨⟨o4,f4,x4⟩,h4,hm⟩:=Option.bind_eq_some_iff.1 hm
  obtain ⟨c,hc,hm⟩:=Option.map_eq_some_iff.1 hm
  simp only [Prod.mk.injEq,Bool.and_eq_true,Bool.not_eq_true',decide_eq_true_eq] at hm
  obtain ⟨⟨k1,k2,k3⟩,rfl,rfl,rfl,rfl,rfl,rfl,rfl,rfl,rfl,hl⟩:=hm
  refine ⟨fun k=>match k with|0=>Pt.new (Ar.new 2000) 0 2 1 [97]|1=>x1|2=>x2|3=>x3|_=>x4,rfl,fun k hk=> ?_,hc,hl⟩
  have h4':k=0∨k=1∨k=2∨k=3:=by omega
  rcases h4' with rfl|rfl|rfl|rfl
  · exact ⟨okP_ok (x:=Pt.new (Ar.new 2000) 0 2 1 [97]) (by decide+kernel),h1⟩
  · exact ⟨okP_ok k1,h2⟩
  · exact ⟨okP_ok k2,h3⟩
  · exact ⟨okP_ok k3,h4⟩
theorem alive13_calls (w:World):Calls Tryz.prog 47 #[] w fun e w'=>e= .returned (.bool true)∧Below w.heap.size w w':=by
  obtain ⟨x,hx0,hxs,hck,hlf⟩:=alive_steps
  have HX:=Lib.hid hxs;have HC:=Lib.hid hck;have HL:=Lib.hid hlf
  have HL0:Hid ((x 0).left=4):=Lib.hid (by rw [hx0];decide+kernel)
  clear hxs hck hlf
  go_enter Tryz.func47,Tryz.ntmps47
  go_wp2_with fail
  refine (new_calls 2000 (by omega) (by omega) _).mono ?_
  rintro e1 W1 ⟨p,O,rfl,hA,hO,hb1⟩
  have HS:=Lib.hid (St.new hb1 hA hO)
  clear hA hO hb1
  go_wp2_with fail
  have hcon:=HS.out.put 0 2 1 [97] [] (by decide+kernel) (by decide) (by decide+kernel) (by omega) (by omega) (by omega) rfl (by decide) (by decide+kernel)
  rw [←hx0] at hcon
  unfold strOf at hcon
  refine hcon.mono ?_
  rintro e2 W2 ⟨b,rfl,h2⟩
  have H2:=Lib.hid h2
  clear h2 hcon HS hx0
  go_wp2_with fail
  refine (H2.out.same fun O hT=>pLeft_calls _ hT).mono ?_
  rintro e3 W3 ⟨rfl,h3⟩
  have H3:=Lib.hid h3
  clear h3 H2
  rw [HL0.out]
  go_wp2_with fail
  go_loopg [4] 4 (fun m c wr=> ∃k:Nat,c= .int .i64 (k:Int)∧k+m=4∧Hid (Sp w wr (.pointer (some ⟨p,0,none⟩)) b (x k) []))
  case atStart=>exact ⟨0,rfl,by omega,H3⟩
  case round=>
    obtain ⟨k,rfl,hk,H⟩:=hrel
    by_cases hlt:k<4
    · obtain ⟨m,rfl⟩: ∃m,gk=m+1:=⟨gk - 1,by omega⟩
      obtain ⟨hok,hst⟩:=HX.out k hlt
      have n1:decide ((k:Int)<4)=true:=by simp;omega
      have e5:wrap64 ((k:Int)+1)=(k:Int)+1:=IntWalk.wrap64_in _ (by omega)
      have HE5:=Lib.hid e5
      have n3:(((k:Int)==3):Bool)=decide (k=3):=by
        by_cases e:k=3
        · subst e;rfl
        · rw [decide_eq_false e,beq_eq_false_iff_ne];omega
      have HOK:=Lib.hid hok;have HST:=Lib.hid hst
      clear hok hst e5 hlt
      go_wp2_with fail
      refine (H.out.act fun O hT=>pStep_calls (x k) HOK.out _ HST.out _ hT).mono ?_
      rintro e4 W4 ⟨rfl,h4⟩
      have H4:=Lib.hid h4
      clear h4
      dsimp only
      rw [←n3]
      go_wp2_with fail
      have e5:=HE5.out
      go_roundg m
      case measure=>omega
      case rel=>exact ⟨k+1,by first|rfl|(rw [e5];rfl),by omega,H4⟩
    · have n1:decide ((k:Int)<4)=false:=by simp;omega
      obtain rfl:k=4:=by omega
      go_wp2_with fail
      refine (H.out.same fun O hT=>pLeft_calls _ hT).mono ?_
      rintro e5 W5 ⟨rfl,h5⟩
      have H5:=Lib.hid h5
      clear h5 H
      rw [HL.out]
      go_wp2_with fail
      refine (H5.out.same fun O hT=>pRoot_calls _ hT).mono ?_
      rintro e6 W6 ⟨rfl,h6⟩
      have H6:=Lib.hid h6
      clear h6 H5
      go_wp2_with fail
      refine calls_gen fun V7 hV7=> ?_
      have H7:=Lib.hid (H6.out.box _ hV7)
      clear hV7
      refine (H7.out.st.read fun O hA=>check_calls (x 4).root 2 [(1,[97])] _ true HC.out (by simp) (by simp) _ hA (rd2_box H7.out.at0)).mono ?_
      rintro e8 W8 ⟨rfl,h8⟩
      have H8:=Lib.hid h8
      clear h8
      go_wp2_with fail
      go_ret
      exact ⟨rfl,H8.out.bel⟩
end
section
open Go.RowKit
attribute [local go_sem ↓] Go.wp_at_zero Go.wp_at_succ
attribute [local go_sem] str_len
variable {s : Ar} {O : Nat → Prop}
end
section
open Go.RowKit
attribute [local go_sem ↓] Go.wp_at_zero Go.wp_at_succ
attribute [local go_sem] lt_s2 lt_s3 lt_s4 str_len
variable {ap : Value} {O : Nat → Prop} {tb : Nat}
theorem pHeld_over (x : Pt) (hov : x.over = true) (w : World) (hT : PB w tb ap x O) :
    Calls Tryz.prog 51 #[.pointer (some ⟨tb,0,none⟩)] w fun e w'=>e= .returned (.slice none 0 0)∧w=w':=by
  have kt:=hT.blk
  rw [hov] at kt
  go_enter Tryz.func51,Tryz.ntmps51
  have c_kt:=f3 kt;have l_ktw:=lt_of kt
  go_wp2_with fail
  go_ret
  exact ⟨rfl,rfl⟩
end
section
open Go.RowKit
variable {s : Ar} {H : List Int} {h : Int} {ds : Docs} {rate : Int}
def rowAt (ds:Docs) (d a:Nat):Nat:=below (txt ds) (d,a) (all (txt ds))
end
section
open Go.RowKit
variable {s : Ar} {H : List Int} {h : Int} {ds : Docs} {rate : Int}
theorem vr_is (hI:Inv s H) (hv:VR s h ds rate) (hR:Right ds):vIs s h=true:=(hv.parts hI (by have:=hR.len;omega)).2.2.2.2
end
section
open Go.RowKit
variable {s : Ar} {H : List Int} {h : Int} {ds m : Docs} {rate other : Int}
def alikeD (rate other:Int) (ds m:Docs):Bool:=
  refRight (txt m)&&(docsM ds==docsM m&&(symsM (txt ds)==symsM (txt m)&&(marksM rate (txt ds)==marksM other (txt m)&&spotsM rate ds==spotsM other m)))
theorem VR.check (hI:Inv s H) (hv:VR s h ds rate) (hR:Right ds) (m:Docs) (other:Int):vCheck s h other m=some (decide (1≤other∧other≤16)&&alikeD rate other ds m):=by
  have hl:=hR.len
  obtain ⟨pw,pm,ps,pt,hi⟩:=hv.parts hI (by omega)
  have hn:=rowsM_small ds
  have hs:=rowS_length rate (rowsM ds)
  unfold vCheck alikeD
  by_cases hr:1≤other∧other≤16
  case neg=>rw [if_neg (fun q=>hr q.2),decide_eq_false hr];rfl
  rw [if_pos ⟨hi,hr⟩,decide_eq_true hr,Bool.true_and]
  by_cases hm:refRight (txt m)=true
  case neg=>rw [if_neg hm,Bool.eq_false_iff.2 hm];rfl
  rw [if_pos hm,hm,Bool.true_and,pt.all hI,Option.bind_some,if_pos (by simp [docsM];omega)]
  by_cases h1:(docsM ds==docsM m)=true
  case neg=>rw [if_neg h1,Bool.eq_false_iff.2 h1];rfl
  rw [if_pos h1,h1,Bool.true_and,pw.all hI,Option.bind_some,if_pos (by simp [rowW];omega),←symsM_eq]
  by_cases h2:(symsM (txt ds)==symsM (txt m))=true
  case neg=>rw [if_neg h2,Bool.eq_false_iff.2 h2];rfl
  rw [if_pos h2,h2,Bool.true_and,pm.all hI,Option.bind_some,if_pos (by simp [rowM];omega),←marksM_eq]
  by_cases h3:(marksM rate (txt ds)==marksM other (txt m))=true
  case neg=>rw [if_neg h3,Bool.eq_false_iff.2 h3];rfl
  rw [if_pos h3,h3,Bool.true_and,ps.all hI,Option.bind_some,if_pos (by omega),←spotsM_eq]
theorem alikeD_self (hR:refRight (txt ds)=true):alikeD rate rate ds ds=true:=by unfold alikeD;simp [hR]
theorem VR.check_own (hI:Inv s H) (hv:VR s h ds rate) (hR:Right ds) (h1:1≤rate) (h2:rate≤16):vCheck s h rate ds=some true:=by
  rw [hv.check hI hR,alikeD_self hR.right,decide_eq_true ⟨h1,h2⟩];rfl
def sameMarks (rate other:Int) (ds:Docs):Bool:=ds.all fun d=>(List.range (d.2.length+1)).all fun a=>decide ((a:Int) % rate=0)==decide ((a:Int) % other=0)
end
section
open Go.RowKit
def inP (D a:Nat) (r:Nat×Nat):Bool:=decide (r.1<D)||(r.1==D&&decide (a≤r.2))
def part (ts:List (List UInt8)) (D a:Nat):List (Nat×Nat):=(all ts).filter (inP D a)
section
variable {ts : List (List UInt8)} {D : Nat} {t : List UInt8}
theorem part_srt (a:Nat):Srt ts (part ts D a):=(all_srt ts).filter _
theorem docs_lt: ∀{n:Nat} {r:Nat×Nat},r∈docs ts n→r.1<n
  | 0,r,h=>by simp [docs] at h
  | n+1,r,h=>by
    rw [docs_succ] at h
    rcases List.mem_append.1 h with h|h
    · have:=docs_lt h;omega
    · unfold rowsOf at h
      obtain ⟨b, -,rfl⟩:=List.mem_map.1 h
      dsimp only;omega
theorem part_perm (ht:ts[D]? =some t) (hD:ts.length=D+1) {a:Nat} (ha:a≤t.length+1):(part ts D a).Perm (docs ts D++(List.range' a (t.length+1 - a)).map fun b=>(D,b)):=by
  unfold part
  refine ((all_docs ts).filter _).trans ?_
  rw [hD,docs_succ,List.filter_append,rowsOf_range,getD_at ht]
  have h1:(docs ts D).filter (inP D a)=docs ts D:=List.filter_eq_self.2 fun r hr=>by
    unfold inP;rw [decide_eq_true (docs_lt hr)];rfl
  have h2:((List.range' 0 (t.length+1)).map fun b=>(D,b)).filter (inP D a)=(List.range' a (t.length+1 - a)).map fun b=>(D,b):=by
    have e:List.range' 0 (t.length+1)=List.range' 0 a++List.range' a (t.length+1 - a):=by
      have:=List.range'_append (s:=0) (m:=a) (n:=t.length+1 - a) (step:=1)
      rw [show a+(t.length+1 - a)=t.length+1 by omega] at this
      rw [←this];simp
    rw [e,List.map_append,List.filter_append]
    have e1:((List.range' 0 a).map fun b=>(D,b)).filter (inP D a)=[]:=List.filter_eq_nil_iff.2 fun r hr=>by
      obtain ⟨b,hb,rfl⟩:=List.mem_map.1 hr
      have:=List.mem_range'_1.1 hb
      unfold inP;simp;omega
    have e2:((List.range' a (t.length+1 - a)).map fun b=>(D,b)).filter (inP D a)=(List.range' a (t.length+1 - a)).map fun b=>(D,b):=List.filter_eq_self.2 fun r hr=>by
      obtain ⟨b,hb,rfl⟩:=List.mem_map.1 hr
      have:=List.mem_range'_1.1 hb
      unfold inP;simp;omega
    rw [e1,e2,List.nil_append]
  rw [h1,h2]
theorem part_zero (hD:ts.length=D+1):part ts D 0=all ts:=List.filter_eq_self.2 fun r hr=>by
  have h:=(all_docs ts).mem_iff.1 hr
  have:=docs_lt h
  unfold inP;simp;omega
theorem part_step (ht:ts[D]? =some t) {a:Nat} (ha:a≤t.length):part ts D a=insA (part ts D (a+1)) (below ts (D,a) (part ts D (a+1))) (D,a):=by
  refine srt_insert (all_srt ts) (fun x hx=>all_in hx) (all_mem ht ha) ?_ fun x hx=> ?_
  · unfold inP;simp
  · unfold inP
    obtain ⟨x1,x2⟩:=x
    by_cases h1:x1<D
    · simp [h1]
    · by_cases h2:x1=D
      · subst h2
        rw [decide_eq_false h1]
        simp only [beq_self_eq_true,Bool.true_and,Bool.false_or]
        by_cases h3:x2=a
        · subst h3;simp
        · have:((x1,x2)==(x1,a))=false:=by simp [h3]
          rw [this,Bool.or_false]
          exact decide_eq_decide.2 (by omega)
      · have:((x1,x2)==(D,a))=false:=by simp [h2]
        rw [this,Bool.or_false]
        have e:(x1==D)=false:=by simpa using h2
        rw [e];rfl
theorem part_end (ht:ts[D]? =some t) (hD:ts.length=D+1):below ts (D,t.length) (part ts D (t.length+1))=D:=by
  unfold below
  rw [(part_perm ht hD (Nat.le_refl _)).countP_eq,Nat.sub_self,List.range'_zero,List.map_nil,List.append_nil,end_docs ht D (by omega)]
  omega
theorem part_next (ht : ts[D]? = some t) (hD : ts.length = D + 1) {a : Nat} (ha : a < t.length) :
    below ts (D,a) (part ts D (a+1))=((part ts D (a+2)).map (symOf ts)).countP (fun y=>decide (y<symOf ts (D,a+1)))+1+(((part ts D (a+2)).map (symOf ts)).take (below ts (D,a+1) (part ts D (a+2)))).count (symOf ts (D,a+1)):=by
  rw [bwt_rank_at (part_srt (a+2))]
  have hq:=Q_split (ts:=ts) D a (part ts D (a+2))
  have h1:(part ts D (a+1)).countP (fun x=>refLess ts x (D,a))=1+(part ts D (a+2)).countP (Q ts D a):=by
    rw [(part_perm ht hD (show a+1≤t.length+1 by omega)).countP_eq,(part_perm ht hD (show a+2≤t.length+1 by omega)).countP_eq,List.countP_append,List.countP_append,lf_docs ht ha D (by omega)]
    have:=doc_part ht ht ha (t.length - (a+1)) (a+1) (by omega)
    rw [show t.length - (a+1)+1=t.length+1 - (a+1) by omega] at this
    rw [this,show t.length+1 - (a+2)=t.length - (a+1) by omega,show a+1+1=a+2 from rfl]
    omega
  unfold below at h1⊢
  rw [h1,hq]
  omega
end
theorem getD_app {ts us:List (List UInt8)} {i:Nat} (h:i<ts.length):(ts++us).getD i []=ts.getD i []:=by
  rw [List.getD_eq_getElem?_getD,List.getD_eq_getElem?_getD,List.getElem?_append_left h]
theorem rl_app {ts us:List (List UInt8)} {x y:Nat×Nat} (hx:x.1<ts.length) (hy:y.1<ts.length):refLess (ts++us) x y=refLess ts x y:=by
  unfold refLess
  rw [getD_app hx,getD_app hy]
theorem part_old (ts:List (List UInt8)) (t:List UInt8):part (ts++[t]) ts.length (t.length+1)=all ts:=by
  have ht:(ts++[t])[ts.length]? =some t:=by simp
  have hp:=part_perm (ts:=ts++[t]) (D:=ts.length) ht (by simp) (Nat.le_refl _)
  rw [Nat.sub_self,List.range'_zero,List.map_nil,List.append_nil] at hp
  have hdocs: ∀n,n≤ts.length→docs (ts++[t]) n=docs ts n:=fun n=>by
    induction n with
    | zero=>intro _;rfl
    | succ n ih=>
      intro hn
      rw [docs_succ,docs_succ,ih (by omega)]
      unfold rowsOf
      rw [getD_app (by omega)]
  rw [hdocs _ (Nat.le_refl _)] at hp
  have hp2:=hp.trans (all_docs ts).symm
  refine srt_unique (ts:=ts++[t]) (part_srt _) ?_ hp2
  have hin: ∀x∈all ts,x.1<ts.length:=fun x hx=>docs_lt ((all_docs ts).mem_iff.1 hx)
  exact (all_srt ts).imp_of_mem fun {a b} ha hb h=>by rw [rl_app (hin a ha) (hin b hb)];exact h
end
section
open Go.RowKit
def rowX (ds:Docs) (r:Nat×Nat):Int×Int×Int:=((ds.getD r.1 (0,[])).1,(r.2:Int),symOf (txt ds) r)
def partX (ds:Docs) (d:Int×List UInt8) (a:Nat):List (Int×Int×Int):=(part (txt (ds++[d])) ds.length a).map (rowX (ds++[d]))
section
variable {ds : Docs} {d : Int × List UInt8} {rate : Int}
theorem txt_snoc:txt (ds++[d])=txt ds++[d.2]:=by simp
theorem txt_new:(txt (ds++[d]))[ds.length]? =some d.2:=by simp
theorem txt_len:(txt (ds++[d])).length=ds.length+1:=by simp
theorem partX_old (h:refRight (txt ds)=true):partX ds d (d.2.length+1)=rowsM ds:=by
  unfold partX
  have h1:=part_old (txt ds) d.2
  rw [List.length_map] at h1
  rw [txt_snoc,h1]
  have h2:refSorted (txt ds)=all (txt ds):=by unfold refSorted;rw [if_pos h];rfl
  unfold rowsM
  rw [h2]
  refine List.map_congr_left fun r hr=> ?_
  have hlt:r.1<(txt ds).length:=docs_lt ((all_docs (txt ds)).mem_iff.1 hr)
  have hlt':r.1<ds.length:=by simpa using hlt
  unfold rowX
  have e1:(ds++[d]).getD r.1 (0,[])=ds.getD r.1 (0,[]):=by
    rw [List.getD_eq_getElem?_getD,List.getD_eq_getElem?_getD,List.getElem?_append_left hlt']
  have e2:symOf (txt (ds++[d])) r=symOf (txt ds) r:=by unfold symOf;rw [txt_snoc,getD_app hlt]
  rw [e1,e2]
theorem partX_new (h:refRight (txt (ds++[d]))=true):partX ds d 0=rowsM (ds++[d]):=by
  unfold partX
  rw [part_zero txt_len]
  have h2:refSorted (txt (ds++[d]))=all (txt (ds++[d])):=by unfold refSorted;rw [if_pos h];rfl
  unfold rowsM
  rw [h2];rfl
theorem insA_map2 {α β:Type} (f:α→β) (l:List α) (i:Nat) (x:α):(insA l i x).map f=insA (l.map f) i (f x):=by unfold insA;simp [List.map_take,List.map_drop]
theorem insA_filter {α:Type} (p:α→Bool) (l:List α) (i:Nat) (x:α):(insA l i x).filter p=if p x then insA (l.filter p) ((l.take i).countP p) x else l.filter p:=by
  unfold insA
  rw [List.filter_append,List.filter_cons]
  have hl:l.filter p=(l.take i).filter p++(l.drop i).filter p:=by rw [←List.filter_append,List.take_append_drop]
  have hc:(l.take i).countP p=((l.take i).filter p).length:=List.countP_eq_length_filter
  by_cases hp:p x=true
  · rw [if_pos hp,if_pos hp,hl,hc,List.take_left,List.drop_left]
  · rw [if_neg hp,if_neg hp,hl]
def rowI (ds:Docs) (d:Int×List UInt8) (a:Nat):Nat:=below (txt (ds++[d])) (ds.length,a) (part (txt (ds++[d])) ds.length (a+1))
def newX (ds:Docs) (d:Int×List UInt8) (a:Nat):Int×Int×Int:=(d.1,(a:Int),symOf (txt (ds++[d])) (ds.length,a))
theorem rowX_new (a:Nat):rowX (ds++[d]) (ds.length,a)=newX ds d a:=by
  unfold rowX newX
  have:(ds++[d]).getD ds.length (0,[])=d:=by simp [List.getD_eq_getElem?_getD]
  rw [this]
theorem partX_step {a:Nat} (ha:a≤d.2.length):partX ds d a=insA (partX ds d (a+1)) (rowI ds d a) (newX ds d a):=by
  unfold partX rowI
  rw [part_step txt_new ha,insA_map2,rowX_new]
theorem rowI_le (a:Nat):rowI ds d a≤(partX ds d (a+1)).length:=by unfold rowI partX;rw [List.length_map];exact below_le _ _
theorem partX_syms (a:Nat):rowW (partX ds d a)=(part (txt (ds++[d])) ds.length a).map (symOf (txt (ds++[d]))):=by unfold rowW partX;rw [List.map_map];rfl
theorem rowI_end:rowI ds d d.2.length=ds.length:=part_end txt_new txt_len
theorem rowI_next {a:Nat} (ha:a<d.2.length):rowI ds d a=(rowW (partX ds d (a+2))).countP (fun y=>decide (y<(newX ds d (a+1)).2.2))+1+((rowW (partX ds d (a+2))).take (rowI ds d (a+1))).count (newX ds d (a+1)).2.2:=by
  rw [partX_syms]
  exact part_next txt_new txt_len ha
theorem rowW_ins (L:List (Int×Int×Int)) (i:Nat) (x:Int×Int×Int):rowW (insA L i x)=insA (rowW L) i x.2.2:=by unfold rowW;exact insA_map2 _ _ _ _
theorem rowM_ins (L:List (Int×Int×Int)) (i:Nat) (x:Int×Int×Int):rowM rate (insA L i x)=insL (rowM rate L) i (mkd rate x):=by unfold rowM;exact insA_map _ _ _ _
theorem rowS_ins (L:List (Int×Int×Int)) (i:Nat) (x:Int×Int×Int):rowS rate (insA L i x)=if mkd rate x then insA (rowS rate L) ((L.take i).countP (mkd rate)) (x.1,x.2.1) else rowS rate L:=by
  unfold rowS
  rw [insA_filter]
  split
  · exact insA_map2 _ _ _ _
  · rfl
theorem partX_small (hR:refRight (txt (ds++[d]))=true) (a:Nat):(partX ds d a).length≤500:=by
  unfold partX part
  rw [List.length_map]
  have h1:=List.length_filter_le (inP ds.length a) (all (txt (ds++[d])))
  have h2:refSorted (txt (ds++[d]))=all (txt (ds++[d])):=by unfold refSorted;rw [if_pos hR];rfl
  have h3:=sorted_small (txt (ds++[d]))
  rw [h2] at h3
  omega
theorem partX_sy (a:Nat):Sy (rowW (partX ds d a)):=fun x hx=>by
  rw [partX_syms] at hx
  obtain ⟨r, -,rfl⟩:=List.mem_map.1 hx
  exact sym_bound r
end
theorem put_at (p:Parts): ∀i,p.put i (p.at i)=p
  | 0=>rfl
  | 1=>rfl
  | 2=>rfl
  | _+3=>rfl
theorem swap_eq (x:Pt) (i:Nat) (r:Int×Int×Ar):x.swap i r=((if r.2.1=0 then 0 else r.2.1),{x with s:=(nextA true (x.p.at i) r).2.2,p:=x.p.put i (nextA true (x.p.at i) r).1}):=by
  unfold Pt.swap nextA
  by_cases e:r.2.1=0
  · rw [if_pos e,if_pos e,if_pos e]
    dsimp only
    have:(if x.p.at i=0 then r.2.2 else r.2.2.drop (x.p.at i))=r.2.2.drop (x.p.at i):=by
      split
      · rename_i q;rw [q,drop_zero]
      · rfl
    rw [this]
  · rw [if_neg e,if_neg e,if_neg e]
    rw [put_at]
theorem swap_T {s : Ar} {H1 H2 : List Int} {h : Int} {r : Int × Int × Ar} {c : Nat} {P : Tr → Prop} (hr : Rs s r (H1 ++ h :: H2) c P) :
    Inv (nextA true h r).2.2 (H1++(nextA true h r).1::H2)∧Grow s (nextA true h r).2.2∧(nextA true h r).2.2.busyN≤s.busyN+c∧
    ((r.2.1=0∧ ∃t',Rep (nextA true h r).2.2 (nextA true h r).1 t'∧P t')∨(r.2.1=2∧(nextA true h r).1=h∧s.size<s.busyN+c)):=by
  obtain ⟨i1,g1,c1,q1⟩:=nextA_T true hr
  refine ⟨i1,g1,c1,?_⟩
  rcases hr.res with ⟨z, -⟩|⟨z, -,z2⟩
  · rcases q1 with ⟨-,q⟩|⟨q, -⟩
    · exact .inl ⟨z,q⟩
    · unfold nextA at q;rw [if_pos z] at q;cases q
  · rcases q1 with ⟨q, -⟩|⟨-,q, -⟩
    · unfold nextA at q;rw [if_neg (by omega)] at q;cases q
    · exact .inr ⟨z,q,z2⟩
structure Pv (x:Pt) (H:List Int) (ds:Docs) (d:Int×List UInt8) (rate:Int) (a:Nat):Prop where
  inv:Inv x.s (x.p.wave::x.p.marks::x.p.spots::x.p.table::H)
  w:HasW x.s x.p.wave (rowW (partX ds d a))
  m:HasB x.s x.p.marks (rowM rate (partX ds d a))
  sp:HasL x.s x.p.spots (rowS rate (partX ds d a))
  t:HasL x.s x.p.table (docsM (ds++[d]))
  id:x.id=d.1
  text:x.text=d.2
  rt:x.rate=rate
  begun:x.begun=true
  over:x.over=false
  root:x.root=0
  pos:x.pos=(a:Int) - 1
  row:1≤a→x.row=(rowI ds d (a - 1):Nat)
structure Pe (x0 x:Pt) (H:List Int):Prop where
  inv:Inv x.s (x.p.wave::x.p.marks::x.p.spots::x.p.table::H)
  src:x.src=x0.src
  over:x.over=false
  root:x.root=x0.root
theorem sym_eq {x:Pt} {H:List Int} {ds:Docs} {d:Int×List UInt8} {rate:Int} {a:Nat} (h:Pv x H ds d rate (a+1)) (ha:a≤d.2.length):x.sym=(newX ds d a).2.2:=by
  have hp:=h.pos
  unfold Pt.sym newX symOf
  dsimp only
  rw [getD_at txt_new,h.text,hp]
  by_cases e:a=0
  · subst e;rw [if_neg (by omega),if_pos rfl]
  · rw [if_pos (by omega),if_neg e]
    rw [show ((((a+1:Nat):Int) - 1 - 1).toNat)=a - 1 by omega]
def costR (n:Nat):Nat:=13*n+50
theorem rowS_count (rate:Int) (L:List (Int×Int×Int)) (i:Nat):((rowM rate L).take i).count true=(L.take i).countP (mkd rate):=by
  unfold rowM
  rw [←List.map_take,List.count,List.countP_map]
  congr 1
  funext x
  simp
theorem next_num {b k n:Nat} (h1:b≤500) (h2:k≤500) (e:n=b+1+k):wrap64 (wrap64 ((b:Int)+1)+(k:Int))=(n:Int):=by
  have q:wrap64 ((b:Int)+1)=(b:Int)+1:=w64 (by omega) (by omega)
  rw [q]
  clear q
  rw [w64 (by omega) (by omega),e];omega
theorem pinsert_T {x : Pt} {H : List Int} {ds : Docs} {d : Int × List UInt8} {rate : Int} {a : Nat} (h : Pv x H ds d rate (a + 1)) (hR : Right (ds ++ [d])) (ha : a ≤ d.2.length) (hH : H.length ≤ 1000) :
    ∃r,x.insert=some r∧Grow x.s r.2.s∧r.2.s.busyN≤x.s.busyN+costR (partX ds d (a+1)).length∧
      ((r.1=0∧r.2.src=x.src∧Pv r.2 H ds d rate a)∨(r.1=2∧x.s.size<x.s.busyN+costR (partX ds d (a+1)).length∧Pe x r.2 H)):=by
  have hn:=partX_small hR.right (a+1)
  have hsy:=partX_sy (ds:=ds) (d:=d) (a+1)
  have hlw:(rowW (partX ds d (a+1))).length=(partX ds d (a+1)).length:=by simp [rowW]
  have hlm:(rowM rate (partX ds d (a+1))).length=(partX ds d (a+1)).length:=by simp [rowM]
  have hls:=rowS_length rate (partX ds d (a+1))
  have hri:=rowI_le (ds:=ds) (d:=d) a
  have hw:WR x.s 9 x.p.wave (rowW (partX ds d (a+1))):=⟨h.w,fun h0=>h.inv.pos (by simp) h0,by omega,hsy⟩
  have hc:0≤(newX ds d a).2.2∧(newX ds d a).2.2<257:=sym_bound _
  have hrow:x.row=(rowI ds d a:Nat):=h.row (by omega)
  have hsym:=sym_eq h ha
  have hid:x.id=(newX ds d a).1:=h.id
  have hpos:x.pos=(newX ds d a).2.1:=by rw [h.pos];show ((a+1:Nat):Int) - 1=(a:Int);omega
  have hmk:(x.pos % x.rate=0)↔mkd rate (newX ds d a)=true:=by
    rw [hpos,h.rt]
    exact decide_eq_true_iff.symm
  have hXid:=hR.id d (by simp)
  have hX:ItOk ((newX ds d a).1,(newX ds d a).2.1):=by
    have h40:=(right_len hR.right).2 ds.length
    rw [getD_at txt_new] at h40
    exact ⟨⟨by show 0≤d.1;omega,hXid.2⟩,by show 0≤(a:Int)∧(a:Int)<_;omega⟩
  have hstep:=partX_step (ds:=ds) (d:=d) ha
  have hnx:1≤a→wrap64 (wrap64 (((rowW (partX ds d (a+1))).countP (fun y=>decide (y<(newX ds d a).2.2)):Nat)+1)+(((rowW (partX ds d (a+1))).take (rowI ds d a)).count (newX ds d a).2.2:Nat))=(rowI ds d (a - 1):Nat):=fun h1=>by
    have e:=rowI_next (ds:=ds) (d:=d) (a:=a - 1) (by omega)
    rw [show a - 1+2=a+1 by omega,show a - 1+1=a by omega] at e
    have b1:=List.countP_le_length (p:=fun y=>decide (y<(newX ds d a).2.2)) (l:=rowW (partX ds d (a+1)))
    have b2:=List.count_le_length (a:=(newX ds d a).2.2) (l:=(rowW (partX ds d (a+1))).take (rowI ds d a))
    rw [List.length_take] at b2
    exact next_num (Nat.le_trans b1 (by rw [hlw];exact hn)) (Nat.le_trans b2 (Nat.le_trans (Nat.min_le_right _ _) (by rw [hlw];exact hn))) e
  have hhm:=h.m;have hhsp:=h.sp;have hht:=h.t;have hinv:=h.inv;have hoid:=h.id;have hotx:=h.text;have hort:=h.rt;have hobg:=h.begun;have hoov:=h.over;have hort2:=h.root
  clear h
  generalize hL:partX ds d (a+1)=L at*
  generalize hXg:newX ds d a=X at*
  generalize hi:rowI ds d a=i at*
  obtain ⟨r1,e1,R1⟩:=wInsert_R hinv (by simp;omega) hw (i:Int) X.2.2 (by omega) (by omega) hc
  rw [Int.toNat_natCast] at R1
  obtain ⟨i1,g1,c1,q1⟩:=swap_T (H1:=[]) (H2:=x.p.marks::x.p.spots::x.p.table::H) R1
  have hins : x.insert = if (x.swap 0 r1).1 = 0 then
      (if x.pos % x.rate=0 then
        (bRank (x.swap 0 r1).2.s (x.swap 0 r1).2.p.marks x.row).bind fun j=>(lInsert (x.swap 0 r1).2.s (x.swap 0 r1).2.p.spots j (x.id,x.pos)).bind fun r2=>
        if ((x.swap 0 r1).2.swap 2 r2).1=0 then ((x.swap 0 r1).2.swap 2 r2).2.mark (wrap64 (wrap64 (((rowW L).countP (fun y=>decide (y<X.2.2)):Nat)+1)+(((rowW L).take i).count X.2.2:Nat))) true
        else some ((x.swap 0 r1).2.swap 2 r2)
       else (x.swap 0 r1).2.mark (wrap64 (wrap64 (((rowW L).countP (fun y=>decide (y<X.2.2)):Nat)+1)+(((rowW L).take i).count X.2.2:Nat))) false)
    else some (x.swap 0 r1):=by
    unfold Pt.insert
    rw [hsym,hrow,hw.before hinv hc,Option.bind_some,hw.rank hinv hc (i:Int) (by omega) (by omega),Option.bind_some,Int.toNat_natCast,e1,Option.bind_some]
  rw [hins]
  generalize hNX:wrap64 (wrap64 (((rowW L).countP (fun y=>decide (y<X.2.2)):Nat)+1)+(((rowW L).take i).count X.2.2:Nat))=NX at*
  clear hins
  have E1:=swap_eq x 0 r1
  have hat0:x.p.at 0=x.p.wave:=rfl
  rw [hat0] at E1
  obtain ⟨n1,hn1⟩: ∃n1,nextA true x.p.wave r1=n1:=⟨_,rfl⟩
  rw [hn1] at E1 i1 g1 c1 q1
  have hg1:=g1.size
  rcases q1 with ⟨z,t1,p1,p2⟩|⟨z,a2,a3⟩
  · rw [if_pos z] at E1
    rw [E1]
    dsimp only
    rw [if_pos rfl]
    have hbm:BR n1.2.2 x.p.marks (rowM rate L):=⟨hhm.grow g1,fun h0=>i1.pos (by simp) h0,by omega⟩
    have fin : ∀ (y : Pt) (ls : List (Int × Int)), y.p.wave = n1.1 → y.p.marks = x.p.marks → y.p.table = x.p.table → y.row = (i : Int) → y.pos = X.2.1 → y.id = x.id → y.text = x.text → y.rate = x.rate → y.begun = true → y.over = false → y.root = 0 → y.src = x.src →
        Inv y.s (n1.1::x.p.marks::y.p.spots::x.p.table::H)→Grow n1.2.2 y.s→y.s.busyN≤n1.2.2.busyN+(3*(rowS rate L).length+4)→HasL y.s y.p.spots (rowS rate (insA L i X))→
        ∃r,y.mark NX (mkd rate X)=some r∧Grow x.s r.2.s∧r.2.s.busyN≤x.s.busyN+costR L.length∧((r.1=0∧r.2.src=x.src∧Pv r.2 H ds d rate a)∨(r.1=2∧x.s.size<x.s.busyN+costR L.length∧Pe x r.2 H)):=by
      intro y ls yw ym yt yr yp yi ytx yrt yb yo yroot ysrc hI hG hB hS
      have hbm2:BR y.s x.p.marks (rowM rate L):=⟨(hhm.grow g1).grow hG,fun h0=>hI.pos (by simp) h0,by omega⟩
      obtain ⟨r3,e3,R3⟩:=bInsert_R hI (by simp;omega) hbm2 (i:Int) (mkd rate X) (by omega) (by omega)
      rw [Int.toNat_natCast] at R3
      obtain ⟨i3,g3,c3,q3⟩:=swap_T (H1:=[n1.1]) (H2:=y.p.spots::x.p.table::H) R3
      have hmark:y.mark NX (mkd rate X)=some (({y with s:=r3.2.2,row:=NX,pos:=wrap64 (y.pos - 1)}:Pt).swap 1 r3):=by
        unfold Pt.mark
        rw [ym,yr,e3];rfl
      have E3:=swap_eq {y with s:=r3.2.2,row:=NX,pos:=wrap64 (y.pos - 1)} 1 r3
      have hat1:(({y with s:=r3.2.2,row:=NX,pos:=wrap64 (y.pos - 1)}:Pt).p.at 1)=x.p.marks:=ym
      rw [hat1] at E3
      rw [hmark,E3]
      generalize nextA true x.p.marks r3=n3 at*
      have hg3:=g3.size
      have hgy:=hG.size
      refine ⟨_,rfl,(g1.trans hG).trans g3,by dsimp only;unfold costR;omega,?_⟩
      rcases q3 with ⟨z3,t3,p3,p4⟩|⟨z3,b2,b3⟩
      · refine .inl ⟨by rw [if_pos z3],ysrc,?_⟩
        have hx1:X.2.1=(a:Int):=by rw [←hXg];rfl
        refine ⟨?_,?_,?_,?_,?_,yi.trans hoid,ytx.trans hotx,yrt.trans hort,yb,yo,yroot,?_,fun h1=>hnx h1⟩
        · show Inv n3.2.2 (y.p.wave::n3.1::y.p.spots::y.p.table::H)
          rw [yw,yt];exact i3
        · show HasW n3.2.2 y.p.wave _
          rw [yw,hstep,rowW_ins];exact ⟨t1,(p1.grow hG).grow g3,p2⟩
        · show HasB n3.2.2 n3.1 _
          rw [hstep,rowM_ins];exact ⟨t3,p3,p4⟩
        · show HasL n3.2.2 y.p.spots _
          rw [hstep];exact hS.grow g3
        · show HasL n3.2.2 y.p.table _
          rw [yt];exact ((hht.grow g1).grow hG).grow g3
        · show wrap64 (y.pos - 1)=(a:Int) - 1
          have:=(right_len hR.right).2 ds.length
          rw [getD_at txt_new] at this
          rw [yp,hx1,w64 (by omega) (by omega)]
      · refine .inr ⟨by rw [if_neg (by omega)];exact z3,by unfold costR;omega,?_⟩
        refine ⟨?_,ysrc,yo,yroot.trans hort2.symm⟩
        show Inv n3.2.2 (y.p.wave::n3.1::y.p.spots::y.p.table::H)
        rw [yw,yt];exact i3
    by_cases hm:mkd rate X=true
    · rw [if_pos (hmk.2 hm)]
      show∃r,((bRank n1.2.2 x.p.marks x.row).bind fun j=>(lInsert n1.2.2 x.p.spots j (x.id,x.pos)).bind fun r2=>_)=some r∧_
      have eb:bRank n1.2.2 x.p.marks x.row=some (((L.take i).countP (mkd rate):Nat):Int):=by rw [hrow,hbm.rank i1 (i:Int) (by omega) (by omega),Int.toNat_natCast,rowS_count]
      rw [eb,Option.bind_some]
      have hbs:LR n1.2.2 x.p.spots (rowS rate L):=⟨hhsp.grow g1,fun h0=>i1.pos (by simp) h0,by omega⟩
      have hcl:(L.take i).countP (mkd rate)≤(rowS rate L).length:=by
        unfold rowS
        rw [List.length_map,←List.countP_eq_length_filter]
        exact (List.take_sublist i L).countP_le
      obtain ⟨r2,e2,R2⟩:=lInsert_R i1 (by simp;omega) hbs (((L.take i).countP (mkd rate):Nat):Int) hX (by omega) (by omega)
      rw [Int.toNat_natCast] at R2
      obtain ⟨i2,g2,c2,q2⟩:=swap_T (H1:=[n1.1,x.p.marks]) (H2:=x.p.table::H) R2
      have e2':lInsert n1.2.2 x.p.spots (((L.take i).countP (mkd rate):Nat):Int) (x.id,x.pos)=some r2:=by rw [hid,hpos];exact e2
      rw [e2',Option.bind_some]
      have E2:=swap_eq {x with s:=n1.2.2,p:=x.p.put 0 n1.1} 2 r2
      have hat2:(({x with s:=n1.2.2,p:=x.p.put 0 n1.1}:Pt).p.at 2)=x.p.spots:=rfl
      rw [hat2] at E2
      rw [E2]
      generalize nextA true x.p.spots r2=n2 at*
      have hg2:=g2.size
      rcases q2 with ⟨z2,t2,p3,p4⟩|⟨z2,b2,b3⟩
      · rw [if_pos z2]
        dsimp only
        rw [if_pos rfl,←hm]
        exact fin {x with s:=n2.2.2,p:=(x.p.put 0 n1.1).put 2 n2.1} [] rfl rfl rfl hrow hpos rfl rfl rfl hobg hoov hort2 rfl i2 g2 c2 (by rw [rowS_ins,if_pos hm];exact ⟨t2,p3,p4⟩)
      · rw [if_neg (by omega)]
        dsimp only
        rw [if_neg (by omega)]
        refine ⟨_,rfl,g1.trans g2,by dsimp only;unfold costR;omega, .inr ⟨z2,by unfold costR;omega,?_⟩⟩
        exact ⟨i2,rfl,hoov,rfl⟩
    · rw [if_neg (fun q=>hm (hmk.1 q)),←Bool.eq_false_iff.2 hm]
      exact fin {x with s:=n1.2.2,p:=x.p.put 0 n1.1} [] rfl rfl rfl hrow hpos rfl rfl rfl hobg hoov hort2 rfl i1 (Grow.refl _) (by show n1.2.2.busyN≤_;omega) (by rw [rowS_ins,if_neg hm];exact hhsp.grow g1)
  · rw [if_neg (by omega)] at E1
    rw [E1]
    dsimp only
    rw [if_neg (by omega)]
    refine ⟨_,rfl,g1,by dsimp only;unfold costR;omega, .inr ⟨z,by unfold costR;omega,?_⟩⟩
    exact ⟨i1,rfl,hoov,rfl⟩
end
section
open Go.RowKit
theorem VR.busy {s:Ar} {root:Int} {ds:Docs} {rate:Int} (hI:Inv s [root]) (hv:VR s root ds rate) (hw:s.wait=[]):8*s.busyN≤2048+56*(rowsM ds).length+16*ds.length:=by
  rcases hv.ex with ⟨rfl,rfl⟩|⟨t,hr,tw,tm,tsp,tt,rfl,h1,h2,h3,h4⟩
  · have:=hI.busy_le hw (T:=[.nil]) ⟨.nil,trivial⟩
    simp only [sizes,List.map_cons,List.map_nil,List.sum_cons,List.sum_nil,Tr.size] at this
    omega
  · have:=hI.busy_le hw (T:=[_]) ⟨hr,trivial⟩
    simp only [sizes,List.map_cons,List.map_nil,List.sum_cons,List.sum_nil,Tr.size] at this
    have a1:=h1.size;have a2:=h2.size;have a3:=h3.size;have a4:=h4.size
    have b1:=rowS_length rate (rowsM ds)
    have b2:(rowW (rowsM ds)).length=(rowsM ds).length:=by simp [rowW]
    have b3:(rowM rate (rowsM ds)).length=(rowsM ds).length:=by simp [rowM]
    have b4:(docsM ds).length=ds.length:=by simp [docsM]
    omega
theorem VR.root {s:Ar} {root:Int} {ds:Docs} {rate:Int} (hv:VR s root ds rate) (h0:root≠0):s.has root=true∧s.get root=⟨6,(vOf s root).wave,(vOf s root).marks,(vOf s root).spots,(vOf s root).table,0,0⟩:=by
  rcases hv.ex with ⟨rfl,rfl⟩|⟨t,hr,tw,tm,tsp,tt,rfl,h1,h2,h3,h4⟩
  · exact absurd rfl h0
  · obtain ⟨k0,k1,k2,k3,hh,hg, -⟩:=hr.get
    have hvi:vIs s root=true:=by
      unfold vIs
      rw [hh,hg]
      simp [hv.live h0]
    have hz:vOf s root=⟨k0,k1,k2,k3⟩:=by unfold vOf;rw [if_pos ⟨h0,hvi⟩,hg]
    rw [hz];exact ⟨hh,hg⟩
end
section
open Go.RowKit
structure P0 (x:Pt) (H:List Int) (ds:Docs) (d:Int×List UInt8) (rate:Int):Prop where
  inv:Inv x.s (x.src::H)
  vr:VR x.s x.src ds rate
  id:x.id=d.1
  text:x.text=d.2
  rt:x.rate=rate
  begun:x.begun=false
  over:x.over=false
  root:x.root=0
  pos:x.pos=(d.2.length:Int)
  p0:x.p=Parts.zero
theorem inv_filter {s:Ar} {H:List Int}: ∀(l:List Int),Inv s (l++H)→Inv s ((l.filter fun h=> !decide (h=0))++H)
  | [],h=>h
  | k::l,h=>by
    rw [List.filter_cons]
    by_cases hk:k=0
    · rw [hk] at h
      rw [if_neg (by simp [hk])]
      exact inv_filter l (Inv.tail_zero h)
    · rw [if_pos (by simp [hk])]
      have h1:Inv s (l++(k::H)):=h.perm List.perm_middle.symm
      have h2:=inv_filter l h1
      exact h2.perm List.perm_middle
theorem insI_perm' (x:Int): ∀l:List Int,(insI x l).Perm (x::l)
  | []=>List.Perm.refl _
  | y::l=>by
    unfold insI
    split
    · exact List.Perm.refl _
    · exact ((insI_perm' x l).cons y).trans (List.Perm.swap x y l)
theorem sortI_perm': ∀l:List Int,(sortI l).Perm l
  | []=>List.Perm.refl _
  | x::l=>(insI_perm' x (sortI l)).trans ((sortI_perm' l).cons x)
theorem stop_T {x:Pt} {H:List Int} (h:Inv x.s (x.src::x.p.wave::x.p.marks::x.p.spots::x.p.table::H)) (ho:x.over=false):Inv x.stop.s H∧Grow x.s x.stop.s∧x.stop.s.busyN=x.s.busyN:=by
  have hh:x.held=(sortI [x.src,x.p.wave,x.p.marks,x.p.spots,x.p.table]).filter fun h=> !decide (h=0):=by unfold Pt.held;rw [ho,if_neg (by decide)]
  show Inv (x.s.dropAll x.held) H∧Grow x.s (x.s.dropAll x.held)∧(x.s.dropAll x.held).busyN=_
  rw [hh]
  have h1:Inv x.s ([x.src,x.p.wave,x.p.marks,x.p.spots,x.p.table]++H):=h
  have h2:Inv x.s (sortI [x.src,x.p.wave,x.p.marks,x.p.spots,x.p.table]++H):=h1.perm ((sortI_perm' _).symm.append_right H)
  exact ⟨Inv.dropAll (inv_filter _ h2),Grow.dropAll _ _,busyN_dropAll _ _⟩
theorem keep1 {s:Ar} {H:List Int} {k:Int} (h:Inv s H) (hH:H.length≤900000) (hk:k≠0→s.cnt k≠0):Inv (s.keep k) (k::H)∧Grow s (s.keep k)∧(s.keep k).busyN=s.busyN∧ ∀j,s.cnt j≠0→(s.keep k).cnt j≠0:=by
  by_cases e:k=0
  · subst e
    rw [keep_zero]
    exact ⟨h.zero_cons (by omega),Grow.refl _,rfl,fun j hj=>hj⟩
  · have hI:=h.keep (by omega) (hk e)
    refine ⟨hI,Grow.keep _ _,busyN_keep _ _,fun j hj=> ?_⟩
    exact h.live hI (Grow.keep _ _) (fun y=>by rw [List.count_cons];omega) hj
theorem begin_T {x : Pt} {H : List Int} {ds : Docs} {d : Int × List UInt8} {rate : Int} (h : P0 x H ds d rate) (hR : Right (ds ++ [d])) (hH : H.length ≤ 900) :
    ∃r,x.begin=some r∧Grow x.s r.2.s∧r.2.s.busyN≤x.s.busyN+40∧
      ((r.1=0∧r.2.src=x.src∧Pv r.2 (x.src::H) ds d rate (d.2.length+1))∨(r.1=2∧x.s.size<x.s.busyN+40∧Pe x r.2 (x.src::H))):=by
  have hlen:=hR.len
  rw [List.length_append,List.length_cons,List.length_nil] at hlen
  have hrd:refRight (txt ds)=true:=by
    have:=hR.right
    unfold refRight at this⊢
    simp only [Bool.and_eq_true,List.all_eq_true,decide_eq_true_eq] at this⊢
    refine ⟨fun t ht=>this.1 t (by rw [txt_snoc];exact List.mem_append.2 (.inl ht)),by rw [List.length_map];omega⟩
  obtain ⟨pw,pm,psp,pt,hvi⟩:=h.vr.parts h.inv (by omega)
  obtain ⟨q,hq⟩: ∃q,vOf x.s x.src=q:=⟨_,rfl⟩
  rw [hq] at pw pm psp pt
  have k1:=keep1 h.inv (by simp;omega) pw.live
  have k2:=keep1 k1.1 (by simp;omega) (fun e=>k1.2.2.2 _ (pm.live e))
  have k3:=keep1 k2.1 (by simp;omega) (fun e=>k2.2.2.2 _ (k1.2.2.2 _ (psp.live e)))
  have k4:=keep1 k3.1 (by simp;omega) (fun e=>k3.2.2.2 _ (k2.2.2.2 _ (k1.2.2.2 _ (pt.live e))))
  have hkp:keepP x.s q=(((x.s.keep q.wave).keep q.marks).keep q.spots).keep q.table:=rfl
  have hG:Grow x.s (keepP x.s q):=((k1.2.1.trans k2.2.1).trans k3.2.1).trans k4.2.1
  have hB:(keepP x.s q).busyN=x.s.busyN:=by rw [hkp,k4.2.2.1,k3.2.2.1,k2.2.2.1,k1.2.2.1]
  have hI:Inv (keepP x.s q) (q.wave::q.marks::q.spots::q.table::x.src::H):=k4.1.perm (by
    have e1:(q.table::q.spots::q.marks::q.wave::x.src::H)=[q.table,q.spots,q.marks,q.wave]++(x.src::H):=rfl
    have e2:(q.wave::q.marks::q.spots::q.table::x.src::H)=[q.wave,q.marks,q.spots,q.table]++(x.src::H):=rfl
    rw [e1,e2]
    refine List.Perm.append_right _ ?_
    have:[q.wave,q.marks,q.spots,q.table]=[q.table,q.spots,q.marks,q.wave].reverse:=rfl
    rw [this]
    exact (List.reverse_perm _).symm)
  obtain ⟨s1,hs1⟩: ∃s1,keepP x.s q=s1:=⟨_,rfl⟩
  rw [hs1] at hG hB hI
  clear hkp k1 k2 k3 k4
  have hlt:LR s1 q.table (docsM ds):=⟨by obtain ⟨t,a,b⟩:=pt.ex;exact ⟨t,a.grow hG,b⟩,fun e=>hI.pos (by simp) e,by simp [docsM];omega⟩
  have hd:=hR.id d (by simp)
  have h40:=(right_len hR.right).2 ds.length
  rw [getD_at txt_new] at h40
  have hnn: ∀y∈docsM ds,y.1≠d.1:=fun y hy e=>by
    unfold docsM at hy
    obtain ⟨z,hz,rfl⟩:=List.mem_map.1 hy
    have hn:=hR.nodup
    rw [List.map_append,List.nodup_append] at hn
    exact hn.2.2 z.1 (List.mem_map.2 ⟨z,hz,rfl⟩) d.1 (by simp) e
  have hdl:(docsM ds).length=ds.length:=by simp [docsM]
  obtain ⟨r,e1,R⟩:=tAdd_R hI (by simp;omega) hlt (x:=(d.1,(d.2.length:Int))) ⟨hd.1,hd.2,by omega,by omega⟩ hnn (by omega)
  have hst:x.start={x with s:=s1,p:=q,begun:=true,row:=(ds.length:Int)}:=by
    unfold Pt.start
    rw [hq]
    rw [hs1,hlt.len hI,hdl]
  have hb:x.begin=some (x.start.swap 3 r):=by
    unfold Pt.begin
    rw [hst]
    dsimp only
    rw [hlt.all hI,Option.bind_some,if_pos (by omega),h.id,h.text,e1];rfl
  obtain ⟨i1,g1,c1,q1⟩:=swap_T (H1:=[q.wave,q.marks,q.spots]) (H2:=x.src::H) R
  have E:=swap_eq x.start 3 r
  have hat:x.start.p.at 3=q.table:=by rw [hst];rfl
  rw [hat] at E
  rw [hb,E]
  generalize nextA true q.table r=n1 at*
  rw [hst]
  have hgs:=hG.size
  refine ⟨_,rfl,hG.trans g1,by dsimp only;omega,?_⟩
  rcases q1 with ⟨z,t1,p1,p2⟩|⟨z,a2,a3⟩
  · refine .inl ⟨by rw [if_pos z],rfl,?_⟩
    have hX:=partX_old (d:=d) hrd
    have hdn:docsM (ds++[d])=docsM ds++[(d.1,(d.2.length:Int))]:=by unfold docsM;simp
    refine ⟨?_,?_,?_,?_,?_,h.id,h.text,h.rt,rfl,h.over,h.root,?_,?_⟩
    · exact i1.perm (by exact List.Perm.refl _)
    · show HasW n1.2.2 q.wave _
      rw [hX];obtain ⟨t,a,b⟩:=pw.ex;exact ⟨t,(a.grow hG).grow g1,b⟩
    · show HasB n1.2.2 q.marks _
      rw [hX];obtain ⟨t,a,b⟩:=pm.ex;exact ⟨t,(a.grow hG).grow g1,b⟩
    · show HasL n1.2.2 q.spots _
      rw [hX];obtain ⟨t,a,b⟩:=psp.ex;exact ⟨t,(a.grow hG).grow g1,b⟩
    · show HasL n1.2.2 n1.1 _
      rw [hdn];exact ⟨t1,p1,p2⟩
    · show x.pos=((d.2.length+1:Nat):Int) - 1
      rw [h.pos];omega
    · intro _
      show (ds.length:Int)=_
      rw [show d.2.length+1 - 1=d.2.length by omega,rowI_end]
  · refine .inr ⟨by rw [if_neg (by omega)];exact z,by omega,⟨?_,rfl,h.over,rfl⟩⟩
    exact i1.perm (List.Perm.refl _)
theorem end_T {x : Pt} {H : List Int} {ds : Docs} {d : Int × List UInt8} {rate : Int} (h : Pv x (x.src :: H) ds d rate 0) (hR : Right (ds ++ [d])) (hH : H.length ≤ 900) :
    ∃e y,x.step=some (true,e,y)∧Grow x.s y.s∧y.s.busyN≤x.s.busyN+1∧y.over=true∧
      ((e=0∧y.root≠0∧Inv y.s (y.root::H)∧VR y.s y.root (ds++[d]) rate)∨(e=2∧y.root=0∧x.s.busyN=x.s.size∧Inv y.s H)):=by
  obtain ⟨tt,ht1,ht2⟩:=h.t
  have htn:x.p.table≠0:=by
    rcases ht2 with ⟨-,q⟩|ht2
    · unfold docsM at q;simp at q
    · exact ht1.ne_ofL ht2
  have hmk:vMake x.s x.p=x.s.make ⟨6,x.p.wave,x.p.marks,x.p.spots,x.p.table,0,0⟩:=by
    unfold vMake;rw [if_neg (fun q=>htn q.2.2.2)]
  have hst:x.step=some (true,(vMake x.s x.p).2.1,({x with s:=(vMake x.s x.p).2.2,root:=(vMake x.s x.p).1}:Pt).stop):=by
    unfold Pt.step
    rw [h.over,if_neg (by decide),h.begun,if_pos rfl,if_neg (by have:=h.pos;omega)]
  rw [hst,hmk]
  rcases h.inv.make (by simp;omega) ⟨6,x.p.wave,x.p.marks,x.p.spots,x.p.table,0,0⟩ ⟨by dsimp only;omega,by dsimp only;omega⟩ U64.zero (fun k hk h0=>h.inv.pos (by simp [Nd.kids] at hk;simp;rcases hk with q|q|q|q<;>simp [q]) h0) with ⟨m1,m2⟩|⟨f,f1,f2,f3,m1,m2,m3,m4,m5,m6,m7⟩
  · rw [m1]
    have hI:Inv x.s (x.src::x.p.wave::x.p.marks::x.p.spots::x.p.table::H):=h.inv.perm (by
      have e1:(x.p.wave::x.p.marks::x.p.spots::x.p.table::x.src::H)=[x.p.wave,x.p.marks,x.p.spots,x.p.table]++x.src::H:=rfl
      rw [e1];exact List.perm_middle)
    obtain ⟨s1,s2,s3⟩:=stop_T (x:={x with s:=x.s,root:=0}) hI h.over
    exact ⟨_,_,rfl,s2,Nat.le_trans (Nat.le_of_eq s3) (Nat.le_succ _),rfl, .inr ⟨rfl,rfl,m2,s1⟩⟩
  · generalize x.s.make ⟨6,x.p.wave,x.p.marks,x.p.spots,x.p.table,0,0⟩=r at*
    have hI:Inv r.2.2 (x.src::x.p.wave::x.p.marks::x.p.spots::x.p.table::((f:Int)::H)):=m3.perm (by
      have e1:((f:Int)::x.p.wave::x.p.marks::x.p.spots::x.p.table::x.src::H)=[(f:Int),x.p.wave,x.p.marks,x.p.spots,x.p.table]++x.src::H:=rfl
      rw [e1]
      refine List.perm_middle.trans (List.Perm.cons _ ?_)
      show ((f:Int)::([x.p.wave,x.p.marks,x.p.spots,x.p.table]++H)).Perm ([x.p.wave,x.p.marks,x.p.spots,x.p.table]++(f:Int)::H)
      exact List.perm_middle.symm)
    obtain ⟨s1,s2,s3⟩:=stop_T (x:={x with s:=r.2.2,root:=r.1}) hI h.over
    have hf0:(f:Int)≠0:=by omega
    have hfh:r.2.2.has (f:Int)=true:=has_iff.2 ⟨by omega,by rw [m4.size];omega,by simpa using m5⟩
    obtain ⟨tw,w1,w2⟩:=h.w
    obtain ⟨tm,n1,n2⟩:=h.m
    obtain ⟨tsp,p1,p2⟩:=h.sp
    have hX:=partX_new hR.right
    rw [hX] at w2 n2 p2
    have hrep:Rep r.2.2 (f:Int) (.nd 6 0 0 tw tm tsp tt):= .nd hfh (by rw [get_nat hfh,Int.toNat_natCast,m6]) (w1.grow m4) (n1.grow m4) (p1.grow m4) (ht1.grow m4)
    refine ⟨_,_,rfl,m4.trans s2,?_,rfl, .inl ⟨m2,?_,?_,?_⟩⟩
    · rw [s3];exact Nat.le_of_eq m7
    · show r.1≠0
      rw [m1];exact hf0
    · show Inv _ (r.1::H)
      rw [m1];exact s1
    · show VR _ r.1 _ _
      rw [m1]
      exact ⟨.inr ⟨_,hrep.grow s2,tw,tm,tsp,tt,rfl,w2,n2,p2,ht2⟩,fun _=>s1.pos (by simp) hf0⟩
end
section
open Go.RowKit
theorem VR.move {s s':Ar} {h:Int} {ds:Docs} {rate:Int} (hv:VR s h ds rate) (hr: ∀t,Rep s h t→Rep s' h t) (hl:h≠0→s'.cnt h≠0):VR s' h ds rate:=by
  refine ⟨?_,hl⟩
  rcases hv.ex with h0|⟨t,ht,hvt⟩
  · exact .inl h0
  · exact .inr ⟨t,hr t ht,hvt⟩
def Stage (x:Pt) (H:List Int) (ds:Docs) (d:Int×List UInt8) (rate:Int) (j:Nat):Prop:=
  (j=d.2.length+3∧P0 x H ds d rate)∨(∃a,j=a+1∧a≤d.2.length+1∧Pv x (x.src::H) ds d rate a)∨(j=0∧x.over=true∧x.root≠0∧Inv x.s (x.root::H)∧VR x.s x.root (ds++[d]) rate)
section
variable {x : Pt} {H : List Int} {ds : Docs} {d : Int × List UInt8} {rate : Int}
theorem Stage.left {j:Nat} (h:Stage x H ds d rate j) (hl:d.2.length≤40):x.left=(j:Int):=by
  unfold Pt.left
  rcases h with ⟨rfl,h⟩|⟨a,rfl,ha,h⟩|⟨rfl,h, -⟩
  · rw [h.over,if_neg (by decide),h.begun,if_neg (by decide),h.text,w64 (by omega) (by omega)];omega
  · rw [h.over,if_neg (by decide),h.begun,if_pos rfl,h.pos,w64 (by omega) (by omega)];omega
  · rw [h,if_pos rfl];rfl
def Stage.list (x:Pt) (H:List Int) (j:Nat):List Int:=if j=0 then x.root::H else if x.begun then x.p.wave::x.p.marks::x.p.spots::x.p.table::x.src::H else x.src::H
theorem Stage.list_len (x:Pt) (H:List Int) (j:Nat):(Stage.list x H j).length≤H.length+5:=by
  unfold Stage.list
  split
  · simp
  · split<;>simp
theorem Stage.list_mem (x:Pt) (H:List Int) (j:Nat) {k:Int} (hk:k∈H):k∈Stage.list x H j:=by
  unfold Stage.list
  split
  · simp [hk]
  · split<;>simp [hk]
theorem Stage.inv {j:Nat} (h:Stage x H ds d rate j):Inv x.s (Stage.list x H j):=by
  unfold Stage.list
  rcases h with ⟨rfl,h⟩|⟨a,rfl,ha,h⟩|⟨rfl,h,h2,h3, -⟩
  · rw [if_neg (by omega),h.begun,if_neg (by decide)];exact h.inv
  · rw [if_neg (by omega),h.begun,if_pos rfl];exact h.inv
  · rw [if_pos rfl];exact h3
theorem Pv.work {a:Nat} (h:Pv x H ds d rate a) {s':Ar} (hI:Inv s' (x.p.wave::x.p.marks::x.p.spots::x.p.table::H)) (hs:Stay x.s s' (x.p.wave::x.p.marks::x.p.spots::x.p.table::H)):Pv {x with s:=s'} H ds d rate a:=
  ⟨hI,h.w.stay hs (by simp),h.m.stay hs (by simp),h.sp.stay hs (by simp),h.t.stay hs (by simp),h.id,h.text,h.rt,h.begun,h.over,h.root,h.pos,h.row⟩
theorem partX_le (hR:refRight (txt (ds++[d]))=true) (a:Nat):(partX ds d a).length≤(rowsM (ds++[d])).length:=by
  rw [←partX_new hR]
  unfold partX
  rw [List.length_map,List.length_map,part_zero txt_len]
  exact List.length_filter_le _ _
def PtIn (x:Pt):Prop:= -1≤x.pos∧x.pos≤x.text.length∧x.text.length≤50000∧1≤x.rate
theorem stepP_full {j : Nat} (h : Stage x H ds d rate (j + 1)) (hR : Right (ds ++ [d])) (hr1 : 1 ≤ rate) (hH : H.length ≤ 900) :
    PtIn x∧ ∃o e y,x.step=some (o,e,y)∧Grow x.s y.s∧y.s.busyN≤x.s.busyN+costR (rowsM (ds++[d])).length∧
      ((e=0∧o=decide (j=0)∧Stage y H ds d rate j∧(1≤j→y.begun=true∧y.src=x.src))∨(e=2∧o=true∧x.s.size<x.s.busyN+costR (rowsM (ds++[d])).length∧y.over=true∧Inv y.s H∧y.root=0)):=by
  have h40:=(right_len hR.right).2 ds.length
  rw [getD_at txt_new] at h40
  have hcost:50≤costR (rowsM (ds++[d])).length:=by unfold costR;omega
  have bad : ∀ {r : Int × Pt} {c : Nat}, Grow x.s r.2.s → r.2.s.busyN ≤ x.s.busyN + c → c ≤ costR (rowsM (ds ++ [d])).length → r.1 = 2 → x.s.size < x.s.busyN + c → Pe x r.2 (x.src :: H) → x.root = 0 → x.step = some (Pt.asked r) → ∃ o e y, x.step = some (o, e, y) ∧ Grow x.s y.s ∧ y.s.busyN ≤ x.s.busyN + costR (rowsM (ds ++ [d])).length ∧
      ((e=0∧o=decide (j=0)∧Stage y H ds d rate j∧(1≤j→y.begun=true∧y.src=x.src))∨(e=2∧o=true∧x.s.size<x.s.busyN+costR (rowsM (ds++[d])).length∧y.over=true∧Inv y.s H∧y.root=0)):=fun {r c} g1 c1 hc z hf hp h0 e1=>by
    have hI:Inv r.2.s (r.2.src::r.2.p.wave::r.2.p.marks::r.2.p.spots::r.2.p.table::H):=by
      have h1:=hp.inv
      rw [←hp.src] at h1
      exact h1.perm (by
        have e1:(r.2.p.wave::r.2.p.marks::r.2.p.spots::r.2.p.table::r.2.src::H)=[r.2.p.wave,r.2.p.marks,r.2.p.spots,r.2.p.table]++r.2.src::H:=rfl
        rw [e1];exact List.perm_middle)
    obtain ⟨s1,s2,s3⟩:=stop_T hI hp.over
    refine ⟨true,2,r.2.stop,?_,g1.trans s2,by rw [s3];omega, .inr ⟨rfl,rfl,by omega,rfl,s1,hp.root.trans h0⟩⟩
    rw [e1];unfold Pt.asked;rw [if_neg (by omega),z];rfl
  rcases h with ⟨hj,h⟩|⟨a,hj,ha,h⟩|⟨hj, -⟩
  · obtain rfl:j=d.2.length+2:=by omega
    refine ⟨⟨by rw [h.pos];omega,by rw [h.pos,h.text];exact Int.le_refl _,by rw [h.text];omega,by rw [h.rt];exact hr1⟩,?_⟩
    obtain ⟨r,e1,g1,c1,q1⟩:=begin_T h hR hH
    have e2:x.step=some (Pt.asked r):=by
      unfold Pt.step
      rw [h.over,if_neg (by decide),h.begun,if_neg (by decide),e1];rfl
    rcases q1 with ⟨z,hs,hp⟩|⟨z,hf,hp⟩
    · refine ⟨_,0,r.2,?_,g1,by omega, .inl ⟨rfl,rfl, .inr (.inl ⟨d.2.length+1,rfl,Nat.le_refl _,by rw [hs];exact hp⟩),fun _=>⟨hp.begun,hs⟩⟩⟩
      rw [e2];unfold Pt.asked
      rw [if_pos z,hp.over,decide_eq_false (by omega)]
    · exact bad g1 c1 (by omega) z hf hp h.root e2
  · obtain rfl:j=a:=by omega
    refine ⟨⟨by rw [h.pos];omega,by rw [h.pos,h.text];omega,by rw [h.text];omega,by rw [h.rt];exact hr1⟩,?_⟩
    cases j with
    | zero=>
      obtain ⟨e,y,e1,g1,c1,o1,q1⟩:=end_T h hR hH
      rcases q1 with ⟨rfl,hr0,hI,hv⟩|⟨rfl,hr,hf,hI⟩
      · exact ⟨true,0,y,e1,g1,by omega, .inl ⟨rfl,rfl, .inr (.inr ⟨rfl,o1,hr0,hI,hv⟩),fun q=>by omega⟩⟩
      · exact ⟨true,2,y,e1,g1,by omega, .inr ⟨rfl,rfl,by omega,o1,hI,hr⟩⟩
    | succ b=>
      obtain ⟨r,e1,g1,c1,q1⟩:=pinsert_T h hR (by omega) (by simp;omega)
      have hle:=partX_le hR.right (b+1)
      have hc:costR (partX ds d (b+1)).length≤costR (rowsM (ds++[d])).length:=by unfold costR;omega
      have e2:x.step=some (Pt.asked r):=by
        unfold Pt.step
        rw [h.over,if_neg (by decide),h.begun,if_pos rfl,if_pos (by rw [h.pos];omega),e1];rfl
      rcases q1 with ⟨z,hs,hp⟩|⟨z,hf,hp⟩
      · refine ⟨_,0,r.2,?_,g1,by omega, .inl ⟨rfl,rfl, .inr (.inl ⟨b,rfl,by omega,by rw [hs];exact hp⟩),fun _=>⟨hp.begun,hs⟩⟩⟩
        rw [e2];unfold Pt.asked
        rw [if_pos z,hp.over,decide_eq_false (by omega)]
      · exact bad g1 c1 hc z hf hp h.root e2
  · omega
theorem stage_step {j : Nat} (h : Stage x H ds d rate (j + 1)) (hR : Right (ds ++ [d])) (hr1 : 1 ≤ rate) (hH : H.length ≤ 900) (hroom : x.s.busyN + costR (rowsM (ds ++ [d])).length ≤ x.s.size) :
    PtIn x∧ ∃y u,x.step=some (decide (j=0),0,y)∧y.s.work 1073741824=some u∧Stage {y with s:=u.2} H ds d rate j∧u.2.wait=[]∧u.2.size=x.s.size∧
      Stage y H ds d rate j∧(1≤j→y.src=x.src)∧Inv u.2 (Stage.list y H j)∧Stay x.s u.2 H∧ ∀k t,k∈Stage.list y H j→Rep x.s k t→Rep u.2 k t:=by
  have key:PtIn x∧ ∃y,x.step=some (decide (j=0),0,y)∧Grow x.s y.s∧Stage y H ds d rate j∧(1≤j→y.begun=true∧y.src=x.src):=by
    obtain ⟨a,o,e,y,e1,g1, -,q⟩:=stepP_full h hR hr1 hH
    rcases q with ⟨rfl,rfl,b,c⟩|⟨-, -,hf, -⟩
    · exact ⟨a,y,e1,g1,b,c⟩
    · omega
  have hx0:=h.inv
  obtain ⟨hin,y,e1,g1,hy,hyb⟩:=key
  refine ⟨hin,y,?_⟩
  have hI:=hy.inv
  obtain ⟨u,w1,w2,w3, -,w5⟩:=hI.work (by have:=Stage.list_len y H j;omega) 1073741824
  refine ⟨u,e1,w1,?_,w5 (by omega),w3.size.trans g1.size,hy,fun q=>(hyb q).2,w2,((g1.stay hx0).mono fun k hk _=>Stage.list_mem x H (j+1) hk).trans (w3.mono fun k hk _=>Stage.list_mem y H j hk),fun k t hk ht=>(ht.grow g1).held w3 hk⟩
  rcases hy with ⟨hj,h0⟩|⟨a,hj,ha,hp⟩|⟨hj,o,r0,hI0,hv⟩
  · exact absurd (hyb (by omega)).1 (by rw [h0.begun];decide)
  · refine .inr (.inl ⟨a,hj,ha,?_⟩)
    unfold Stage.list at w2 w3
    rw [if_neg (by omega),hp.begun,if_pos rfl] at w2 w3
    exact hp.work w2 w3
  · subst hj
    unfold Stage.list at w2 w3
    rw [if_pos rfl] at w2 w3
    exact .inr (.inr ⟨rfl,o,r0,w2,hv.move (fun t ht=>ht.held w3 (by simp)) (fun q=>w2.pos (by simp) q)⟩)
theorem stage_stop {j:Nat} (h:Stage x H ds d rate (j+1)) (hH:H.length≤900):Inv x.stop.s H∧Grow x.s x.stop.s∧x.over=false:=by
  rcases h with ⟨hj,h⟩|⟨a,hj,ha,h⟩|⟨hj, -⟩
  · have hI : Inv x.s (x.src :: x.p.wave :: x.p.marks :: x.p.spots :: x.p.table :: H) := by
      rw [h.p0]
      have h1:=(((h.inv.zero_cons (by simp;omega)).zero_cons (by simp;omega)).zero_cons (by simp;omega)).zero_cons (by simp;omega)
      refine h1.perm ?_
      have e1:((0:Int)::0::0::0::x.src::H)=[0,0,0,0]++x.src::H:=rfl
      rw [e1];exact List.perm_middle
    obtain ⟨a,b, -⟩:=stop_T hI h.over
    exact ⟨a,b,h.over⟩
  · have hI : Inv x.s (x.src :: x.p.wave :: x.p.marks :: x.p.spots :: x.p.table :: H) := h.inv.perm (by
      have e1:(x.p.wave::x.p.marks::x.p.spots::x.p.table::x.src::H)=[x.p.wave,x.p.marks,x.p.spots,x.p.table]++x.src::H:=rfl
      rw [e1];exact List.perm_middle)
    obtain ⟨a,b, -⟩:=stop_T hI h.over
    exact ⟨a,b,h.over⟩
  · omega
theorem root_refs1 {s:Ar} {root:Int} (hI:Inv s [root]) (hw:s.wait=[]) (h0:root≠0):s.refs root=0:=by
  obtain ⟨rk,hrk⟩:=hI.rank
  have hlt: ∀{x k:Int},s.has x=true→k∈(s.get x).kids→k≠0→rk k.toNat<rk x.toNat:=fun {x k} hx hkx hk0=>by
    obtain ⟨n,rfl,n1,n2,n3⟩:=has_nat hx
    rw [get_nat hx,Int.toNat_natCast] at hkx
    rw [Int.toNat_natCast]
    exact hrk n n1 n2 n3 k hkx hk0
  have hall: ∀x,Rc s [root] x→rk x.toNat≤rk root.toNat:=fun x hx=>by
    induction hx with
    | held h1 h2=>rw [List.mem_singleton.1 h1];exact Nat.le_refl _
    | @kid y k hr h1 h2 ih=>exact Nat.le_of_lt (Nat.lt_of_lt_of_le (hlt (hI.rc hr).1 h1 h2) ih)
  refine refsTo_zero _ _ _ _ fun n n1 n2 n3 hm=> ?_
  have hn:s.has (n:Int)=true:=has_iff.2 ⟨by omega,by omega,by simpa using n3⟩
  have hm':root∈(s.get (n:Int)).kids:=by rw [get_nat hn,Int.toNat_natCast];exact hm
  have h1:=hlt hn hm' h0
  have h2:=hall _ (hI.reached hw hn)
  omega
theorem cnt_one {s:Ar} {root:Int} (hI:Inv s [root]) (hw:s.wait=[]) (h0:root≠0):s.cnt root=1:=by
  obtain ⟨n,rfl,n1,n2,n3⟩:=has_nat (hI.held root (by simp) h0)
  rw [Ar.cnt_nat n1 n2,hI.cnt n n1 n2 n3,root_refs1 hI hw h0]
  simp
def Sz (s:Ar) (B:Nat) (k:Int):Prop:= ∃t,Rep s k t∧8*t.size≤B
theorem VR.sz {s:Ar} {k:Int} {ds':Docs} {rate':Int} (hv:VR s k ds' rate'):Sz s (2048+56*(rowsM ds').length+16*ds'.length) k:=by
  rcases hv.ex with ⟨rfl,rfl⟩|⟨t,hr,tw,tm,tsp,tt,rfl,h1,h2,h3,h4⟩
  · exact ⟨.nil, .nil,by simp [Tr.size]⟩
  · refine ⟨_,hr,?_⟩
    simp only [Tr.size]
    have a1:=h1.size;have a2:=h2.size;have a3:=h3.size;have a4:=h4.size
    have b1:=rowS_length rate' (rowsM ds')
    have b2:(rowW (rowsM ds')).length=(rowsM ds').length:=by simp [rowW]
    have b3:(rowM rate' (rowsM ds')).length=(rowsM ds').length:=by simp [rowM]
    have b4:(docsM ds').length=ds'.length:=by simp [docsM]
    omega
theorem sz_reps {s:Ar} {B:Nat}: ∀{H:List Int},(∀k∈H,Sz s B k)→ ∃T,Reps s H T∧8*sizes T≤H.length*B
  | [],_=>⟨[],trivial,by simp [sizes]⟩
  | k::H,h=>by
    obtain ⟨t,a,b⟩:=h k (by simp)
    obtain ⟨T,c,e⟩:=sz_reps (H:=H) fun q hq=>h q (by simp [hq])
    refine ⟨t::T,⟨a,c⟩,?_⟩
    have e1:sizes (t::T)=t.size+sizes T:=by simp [sizes]
    have e2:(H.length+1)*B=H.length*B+B:=Nat.succ_mul _ _
    rw [e1,List.length_cons,e2]
    omega
theorem stage_busy {j B : Nat} (h : Stage x H ds d rate j) (hR : Right (ds ++ [d])) (hw : x.s.wait = []) (hs : j ≠ 0 → Sz x.s B x.src) (hH : ∀ k ∈ H, Sz x.s B k) :
    8*x.s.busyN≤(H.length+1)*B+2048+56*(rowsM (ds++[d])).length+16*(ds.length+1):=by
  obtain ⟨T,hT1,hT2⟩:=sz_reps hH
  have e2:(H.length+1)*B=H.length*B+B:=Nat.succ_mul _ _
  rw [e2]
  rcases h with ⟨rfl,h⟩|⟨a,rfl,ha,h⟩|⟨rfl, -, -,hI,hv⟩
  · obtain ⟨t0,r0,b0⟩:=hs (by omega)
    have:=h.inv.busy_le hw (T:=t0::T) ⟨r0,hT1⟩
    have e:sizes (t0::T)=t0.size+sizes T:=by simp [sizes]
    omega
  · obtain ⟨t0,r0,b0⟩:=hs (by omega)
    obtain ⟨t1,a1,b1⟩:=h.w
    obtain ⟨t2,a2,b2⟩:=h.m
    obtain ⟨t3,a3,b3⟩:=h.sp
    obtain ⟨t4,a4,b4⟩:=h.t
    have:=h.inv.busy_le hw (T:=t1::t2::t3::t4::t0::T) ⟨a1,a2,a3,a4,r0,hT1⟩
    have e:sizes (t1::t2::t3::t4::t0::T)=t1.size+(t2.size+(t3.size+(t4.size+(t0.size+sizes T)))):=by simp [sizes]
    have c1:=b1.size;have c2:=b2.size;have c3:=b3.size;have c4:=b4.size
    have l1:=rowS_length rate (partX ds d a)
    have l2:(rowW (partX ds d a)).length=(partX ds d a).length:=by simp [rowW]
    have l3:(rowM rate (partX ds d a)).length=(partX ds d a).length:=by simp [rowM]
    have l4:(docsM (ds++[d])).length=ds.length+1:=by simp [docsM]
    have l5:=partX_le hR.right a
    omega
  · obtain ⟨t0,r0,b0⟩:=hv.sz
    have:=hI.busy_le hw (T:=t0::T) ⟨r0,hT1⟩
    have e:sizes (t0::T)=t0.size+sizes T:=by simp [sizes]
    rw [List.length_append,List.length_cons,List.length_nil] at b0
    omega
theorem new_T {s:Ar} {root:Int} (hI:Inv s [root]) (hw:s.wait=[]) (hv:VR s root ds rate):Stage (Pt.new s root rate d.1 d.2) [root] ds d rate (d.2.length+3)∧(Pt.new s root rate d.1 d.2).s.wait=[]∧Stay s (Pt.new s root rate d.1 d.2).s [root]∧(Pt.new s root rate d.1 d.2).s.size=s.size∧(Pt.new s root rate d.1 d.2).s.busyN=s.busyN∧(root≠0→(Pt.new s root rate d.1 d.2).s.cnt root=2):=by
  have hk:=keep1 (k:=root) hI (by simp) (fun e=>hI.pos (by simp) e)
  have hwt:(s.keep root).wait=s.wait:=by unfold Ar.keep;split<;>rfl
  refine ⟨.inl ⟨rfl,hk.1,hv.move (fun t ht=>ht.grow hk.2.1) (fun e=>hk.1.pos (by simp) e),rfl,rfl,rfl,rfl,rfl,rfl,rfl,rfl⟩,by show (s.keep root).wait=[];rw [hwt,hw],hk.2.1.stay hI,Ar.keep_size _ _,hk.2.2.1,fun h0=> ?_⟩
  have h1:=cnt_one hI hw h0
  obtain ⟨n,rfl,n1,n2,n3⟩:=has_nat (hI.held root (by simp) h0)
  show (s.keep (n:Int)).cnt (n:Int)=2
  unfold Ar.keep
  rw [if_neg (by rw [h1];decide),h1]
  unfold Ar.cnt
  rw [if_pos (by dsimp only;omega)]
  dsimp only
  rw [Int.toNat_natCast,upd_self]
  exact w64 (by omega) (by omega)
end
end
section
open Go.RowKit
theorem right_snoc {ds:Docs} {d:Int×List UInt8} (hR:Right ds) (hl:ds.length<10) (h1:1≤d.1) (h2:d.1<9223372036854775808) (ht:d.2.length≤40) (hp: ∀y∈ds,y.1≠d.1):Right (ds++[d]):=by
  refine ⟨?_,fun y hy=> ?_,?_⟩
  · have h:=hR.right
    unfold refRight at h⊢
    simp only [Bool.and_eq_true,List.all_eq_true,decide_eq_true_eq] at h⊢
    refine ⟨fun t htm=> ?_,by simp;omega⟩
    rw [txt_snoc] at htm
    rcases List.mem_append.1 htm with h3|h3
    · exact h.1 t h3
    · rw [List.mem_singleton.1 h3];exact ht
  · rcases List.mem_append.1 hy with h3|h3
    · exact hR.id y h3
    · rw [List.mem_singleton.1 h3];exact ⟨h1,h2⟩
  · rw [List.map_append,List.nodup_append]
    refine ⟨hR.nodup,by simp,fun a ha b hb=> ?_⟩
    obtain ⟨y,hy,rfl⟩:=List.mem_map.1 ha
    simp at hb
    rw [hb];exact hp y hy
structure LoopT (s0:Ar) (root:Int) (ds:Docs) (d:Int×List UInt8) (rate:Int) (j:Nat) (x:Pt):Prop where
  st:Stage x [root] ds d rate j
  wt:x.s.wait=[]
  stay:Stay s0 x.s [root]
  src:x.src=root
  size:x.s.size=6000
  busy:8*x.s.busyN≤30000
section
variable {s0 : Ar} {root : Int} {ds : Docs} {d : Int × List UInt8} {rate : Int} {j : Nat} {x : Pt}
theorem LoopT.next (h : LoopT s0 root ds d rate (j + 1) x) (hj : 1 ≤ j) (hv : VR s0 root ds rate) (hRd : Right (ds ++ [d])) (hrows : (rowsM (ds ++ [d])).length ≤ 111) (hrows0 : (rowsM ds).length ≤ 70) (hl : ds.length < 10) (h1 : 1 ≤ rate) :
    PtIn x∧ ∃y u,x.step=some (false,0,y)∧y.s.work 1073741824=some u∧LoopT s0 root ds d rate j {y with s:=u.2}:=by
  obtain ⟨hin,y,u,e1,e2,e3,e4,e5, -,e7, -,e9, -⟩:=stage_step h.st hRd h1 (by simp) (by have:=h.busy;have:=h.size;unfold costR;omega)
  refine ⟨hin,y,u,by rw [e1,decide_eq_false (by omega)],e2,e3,e4,h.stay.trans e9,(e7 hj).trans h.src,e5.trans h.size,?_⟩
  have hz:Sz u.2 6128 root:=by
    obtain ⟨t,ht,hb⟩:=hv.sz
    exact ⟨t,ht.held (h.stay.trans e9) (by simp),by omega⟩
  have hb:=stage_busy (x:={y with s:=u.2}) (B:=6128) e3 hRd e4 (fun _=>by show Sz u.2 6128 y.src;rw [e7 hj,h.src];exact hz) (fun k hk=>by rw [List.mem_singleton.1 hk];exact hz)
  show 8*u.2.busyN≤30000
  replace hb:8*u.2.busyN≤_:=hb
  simp only [List.length_cons,List.length_nil] at hb
  omega
theorem stage_root {H:List Int} (h:Stage x H ds d rate (j+1)):x.root=0:=by
  rcases h with ⟨hj,h⟩|⟨a,hj,ha,h⟩|⟨hj, -⟩
  · exact h.root
  · exact h.root
  · omega
theorem LoopT.stop (h : LoopT s0 root ds d rate (j + 1) x) (hI : Inv s0 [root]) (hw : s0.wait = []) (hv : VR s0 root ds rate) (hR : Right ds) (h1 : 1 ≤ rate) (h2 : rate ≤ 16) :
    ∃u,x.stop.s.work 1073741824=some u∧x.stop.root=0∧u.2.busy=s0.busy∧(root≠0→u.2.cnt root=1)∧vCheck u.2 root rate ds=some true:=by
  obtain ⟨a1,a2, -⟩:=stage_stop h.st (by simp)
  obtain ⟨u,w1,w2,w3, -,w5⟩:=a1.work (by simp) 1073741824
  have hw2:=w5 (by omega)
  have hst:Stay s0 u.2 [root]:=(h.stay.trans ((a2.stay h.st.inv).mono fun k hk _=>Stage.list_mem x [root] (j+1) hk)).trans w3
  have hv2:VR u.2 root ds rate:=hv.move (fun t ht=>ht.held hst (by simp)) (fun e=>w2.pos (by simp) e)
  have hr0:=stage_root h.st
  refine ⟨u,w1,hr0,?_,cnt_one w2 hw2,hv2.check_own w2 hR h1 h2⟩
  rw [w2.busy,hI.busy]
  rw [hI.busy_same hw w2 hw2 hst]
end
end
section
open Go.RowKit
section
variable {s0 : Ar} {root : Int} {ds : Docs} {d : Int × List UInt8} {rate : Int} {x : Pt} {j : Nat}
structure LoopP (s0:Ar) (root:Int) (ds:Docs) (d:Int×List UInt8) (rate:Int) (j:Nat) (x:Pt):Prop where
  st:Stage x [root] ds d rate j
  stay:Stay s0 x.s [root]
structure EndP (s0:Ar) (root:Int) (s:Ar):Prop where
  inv:Inv s [root]
  stay:Stay s0 s [root]
theorem newP_T {s:Ar} (hI:Inv s [root]) (hw:s.wait=[]) (hv:VR s root ds rate):LoopP s root ds d rate (d.2.length+3) (Pt.new s root rate d.1 d.2):=by
  obtain ⟨a, -,b, -⟩:=new_T (d:=d) hI hw hv
  exact ⟨a,b⟩
theorem LoopP.next (h : LoopP s0 root ds d rate (j + 1) x) (hR : Right (ds ++ [d])) (h1 : 1 ≤ rate) (h2 : rate ≤ 16) :
    PtIn x∧ ∃o e y,x.step=some (o,e,y)∧
      ((e = 0 ∧ ∃ u, y.s.work 1073741824 = some u ∧ ((o = false ∧ 1 ≤ j ∧ LoopP s0 root ds d rate (j - 1 + 1) { y with s := u.2 }) ∨
         (o=true∧y.root≠0∧vCheck u.2 y.root rate (ds++[d])=some true∧u.2.cntE y.root=0∧EndP s0 root (u.2.drop y.root))))∨
       (e=2∧o=true∧y.root=0∧y.over=true∧EndP s0 root y.s)):=by
  obtain ⟨hin,o,e,y,e1,g, -,h3⟩:=stepP_full h.st hR h1 (by simp)
  have hx:=h.st.inv
  have hs:Stay s0 y.s [root]:=h.stay.trans ((g.stay hx).mono fun q hq _=>Stage.list_mem x [root] (j+1) hq)
  refine ⟨hin,o,e,y,e1,?_⟩
  rcases h3 with ⟨rfl,rfl,hy, -⟩|⟨rfl,rfl, -,ho,hI,hz⟩
  · refine .inl ⟨rfl,?_⟩
    have hI:=hy.inv
    obtain ⟨u,w1,w2,w3, -,w5⟩:=hI.work (by have:=Stage.list_len y [root] j;simp at this;omega) 1073741824
    have hs2:Stay s0 u.2 [root]:=hs.trans (w3.mono fun q hq _=>Stage.list_mem y [root] j hq)
    refine ⟨u,w1,?_⟩
    rcases hy with ⟨hj,h0⟩|⟨a,hj,ha,hp⟩|⟨rfl,o1,r0,hI0,hv⟩
    · refine .inl ⟨decide_eq_false (by omega),by omega,?_,hs2⟩
      rw [show j - 1+1=j by omega]
      unfold Stage.list at w2 w3
      rw [if_neg (by omega),h0.begun,if_neg (by decide)] at w2 w3
      exact .inl ⟨hj,⟨w2,h0.vr.move (fun t ht=>ht.held w3 (by simp)) (fun q=>w2.pos (by simp) q),h0.id,h0.text,h0.rt,h0.begun,h0.over,h0.root,h0.pos,h0.p0⟩⟩
    · refine .inl ⟨decide_eq_false (by omega),by omega,?_,hs2⟩
      rw [show j - 1+1=j by omega]
      unfold Stage.list at w2 w3
      rw [if_neg (by omega),hp.begun,if_pos rfl] at w2 w3
      exact .inr (.inl ⟨a,hj,ha,hp.work w2 w3⟩)
    · unfold Stage.list at w2 w3
      rw [if_pos rfl] at w2 w3
      have hv2:=hv.move (s':=u.2) (fun t ht=>ht.held w3 (by simp)) (fun q=>w2.pos (by simp) q)
      refine .inr ⟨rfl,r0,hv2.check_own w2 hR h1 h2,?_,w2.drop,hs2.trans (((Grow.drop u.2 y.root).stay w2).mono fun q hq _=>by simpa using List.mem_cons_of_mem _ hq)⟩
      have:=w2.pos (by simp) r0
      unfold Ar.cntE;rw [if_neg this]
  · exact .inr ⟨rfl,rfl,hz,ho,hI,hs⟩
theorem EndP.fin {t : Ar} (h : EndP s0 root t) (hI : Inv s0 [root]) (hw : s0.wait = []) (hv : VR s0 root ds rate) (hR : Right ds) (h1 : 1 ≤ rate) (h2 : rate ≤ 16) :
    ∃u,t.work 1073741824=some u∧u.2.busy=s0.busy∧vCheck u.2 root rate ds=some true:=by
  obtain ⟨u,w1,w2,w3, -,w5⟩:=h.inv.work (by simp) 1073741824
  have hw2:=w5 (by omega)
  have hst:Stay s0 u.2 [root]:=h.stay.trans w3
  have hv2:VR u.2 root ds rate:=hv.move (fun t ht=>ht.held hst (by simp)) (fun e=>w2.pos (by simp) e)
  exact ⟨u,w1,by rw [w2.busy,hI.busy,hI.busy_same hw w2 hw2 hst],hv2.check_own w2 hR h1 h2⟩
end
end
section
open Go.RowKit
end
section
open Go.RowKit
attribute [local go_sem ↓] Go.wp_at_zero Go.wp_at_succ
attribute [local go_sem] str_len
variable {ap : Value} {s : Ar} {O : Nat → Prop}
theorem bRows_stop {rate:Int} {l:List (Int×Int×Int)} {i:Int} {b b':Bst} (h:bRows rate l i b=some b') (ho:b.ok=false):b=b':=by
  cases l with
  | nil=>cases h;rfl
  | cons x l=>unfold bRows at h;rw [ho,if_neg (by decide)] at h;cases h;rfl
theorem buildF_calls (rate : Int) (hr1 : 1 ≤ rate) (hr2 : rate ≤ 1000) (ds : List (Int × List UInt8)) (ad : Addr) (cap : Nat) (hne : ds ≠ []) (hrt : refRight (ds.map (·.2)) = true) (w : World) (hD : Rd2 w (.slice (some ad) ds.length cap) ds) (hO : ¬ O ad.block) (hA : AP w ap s O)
    (B1 B2:Bst) (h1:bRows rate (rowsM ds) 0 ⟨s,true,Parts.zero,0⟩=some B1) (h2:bTable (docsM ds) B1=some B2) (root:Int) (okr:Bool) (s':Ar) (h3:bEnd B2=some (root,okr,s')):
    Calls Tryz.prog 17 #[ap, .int .i64 rate, .slice (some ad) ds.length cap] w fun e w'=>e= .returned (.tuple #[.int .i64 root, .bool okr])∧Did noX ap s' O w w':=by
  have hlen:0<ds.length:=List.length_pos_iff.2 hne
  obtain ⟨hn10,h40⟩:=right_len hrt
  rw [List.length_map] at hn10
  have d0:((ds.length:Int)==0)=false:=by rw [beq_eq_false_iff_ne];omega
  have HD:=Lib.hid hD;have H1:=Lib.hid h1;have H2:=Lib.hid h2;have H3:=Lib.hid h3;have H40:=Lib.hid h40;have HO:=Lib.hid hO
  clear hD h1 h2 h3 h40 hne
  obtain ⟨ts,hts⟩: ∃ts,ts=ds.map (·.2):=⟨_,rfl⟩
  have htl:ts.length=ds.length:=by rw [hts,List.length_map]
  rw [←hts] at hrt
  have H40':Hid (∀t,t∈ts→t.length≤50000):=Lib.hid (fun t ht=>by
    obtain ⟨i,hi,rfl⟩:=List.getElem_of_mem ht
    have:=(right_len hrt).2 i
    rw [getD_at (List.getElem?_eq_getElem hi)] at this
    omega)
  have Hts:=Lib.hid hts;clear hts
  obtain ⟨q,rfl⟩:=hA.ptr
  go_enter Tryz.func17,Tryz.ntmps17
  go_wp2_with fail
  refine cg fun V0 hV_V0=> ?_
  have hF:=Fr.refl (noX) O w
  refine nnf0 hV_V0 hA hF ?_;clear hA hF;intro hn_V0 z_V0 hA hF
  obtain ⟨ka,c_ka,o_ka,l_kaV0⟩:=nN hn_V0 hV_V0 (w.heap.size)
  clear hV_V0 hn_V0
  have hAV0:=hA
  refine (texts_calls _ ds (by omega) _ (HD.out.fr hF HO.out (fun h=>h))).mono ?_
  rintro e_W0 W0 ⟨v0,rfl,hown0,hb_W0⟩
  refine bef1 hb_W0 hA hF ka ?_;clear hb_W0 hA hF ka c_ka;intro z_W0 hA hF ka c_ka
  have hge0: ∀g,v0.ownBlock=some g→V0.heap.size≤g:=fun g hg=>(hown0.lt g hg).1
  obtain ⟨hl0,A0,c0,rfl,hx0⟩:=Rk.of_own hown0
  obtain ⟨g0,cs0,T0,rfl,kx,hcs0⟩:=hx0 (by omega)
  have o_kx: ¬O g0:=fun h=>by have:=hAV0.lt h;have:=hge0 g0 rfl;omega
  have HX0:Hid (∀V:World,V.heap[g0]? =some (.cells cs0 T0 (0,0))→Rk V 1 (.slice (some ⟨g0,0,none⟩) ds.length c0) ts.length (ts.map strOf)):=Lib.hid (fun V hV=>by
    rw [Hts.out,List.length_map]
    exact ⟨hl0,_,_,rfl,fun _=>⟨g0,cs0,T0,rfl,hV,hcs0⟩⟩)
  clear hAV0 hown0 hge0 hl0 hx0 hcs0
  have c_kx:=f3 kx;have l_kxW0:=lt_of kx
  go_wp2_with fail
  refine cg fun V1 hV_V1=> ?_
  refine nef2 hV_V1 hA hF ka kx ?_;clear hA hF ka kx c_ka c_kx;intro z_V1 hA hF ka c_ka kx c_kx
  clear hV_V1
  have hAV1:=hA
  refine (sorted_calls _ ts (by omega) _ (HX0.out _ kx)).mono ?_
  rintro e_W1 W1 ⟨v1,rfl,hown1,hb_W1⟩
  refine bef2 hb_W1 hA hF ka kx ?_;clear hb_W1 hA hF ka kx c_ka c_kx;intro z_W1 hA hF ka c_ka kx c_kx
  have hge1: ∀g,v1.ownBlock=some g→V1.heap.size≤g:=fun g hg=>(hown1.lt g hg).1
  have hRpos:0<(refSorted ts).length:=by
    unfold refSorted;rw [if_pos hrt,refFold_length]
    obtain ⟨n,hn⟩: ∃n,ts.length=n+1:=⟨ts.length - 1,by omega⟩
    rw [hn,←upto_next,upto_snoc];simp
  obtain ⟨hl1,A1,c1,rfl,hx1⟩:=Rk.of_own hown1
  obtain ⟨g1,cs1,T1,rfl,kr,hcs1⟩:=hx1 hRpos
  have o_kr: ¬O g1:=fun h=>by have:=hAV1.lt h;have:=hge1 g1 rfl;omega
  have hrows:Hid (∀(i:Nat) (r:Nat×Nat),(refSorted ts)[i]? =some r→cs1[i*2]? =some (Value.int .i64 (r.1:Int))∧cs1[i*2+1]? =some (Value.int .i64 (r.2:Int))):=Lib.hid (fun (i:Nat) (r:Nat×Nat) hr=>by
    have hi:=(List.getElem?_eq_some_iff.1 hr).1
    exact ⟨(hcs1 _ (by omega)).trans (rowCells_at hr).1,(hcs1 _ (by omega)).trans (rowCells_at hr).2⟩)
  clear hAV1 hown1 hge1 hl1 hx1 hcs1
  have c_kr:=f3 kr;have l_krW1:=lt_of kr
  go_wp2_with fail
  refine cg fun V2 hV_V2=> ?_
  refine nef3 hV_V2 hA hF ka kx kr ?_;clear hA hF ka kx kr c_ka c_kx c_kr;intro z_V2 hA hF ka c_ka kx c_kx kr c_kr
  clear hV_V2
  have hAV2:=hA
  refine (symbols_calls _ ts (by omega) H40'.out _ (HX0.out _ kx)).mono ?_
  rintro e_W2 W2 ⟨v2,rfl,hown2,hb_W2⟩
  refine bef3 hb_W2 hA hF ka kx kr ?_;clear hb_W2 hA hF ka kx kr c_ka c_kx c_kr;intro z_W2 hA hF ka c_ka kx c_kx kr c_kr
  have hge2: ∀g,v2.ownBlock=some g→V2.heap.size≤g:=fun g hg=>(hown2.lt g hg).1
  obtain ⟨hl2,A2,c2,rfl,hx2⟩:=Rk.of_own hown2
  obtain ⟨g2,cs2,T2,rfl,ks,hcs2⟩:=hx2 hRpos
  have o_ks: ¬O g2:=fun h=>by have:=hAV2.lt h;have:=hge2 g2 rfl;omega
  have hsyms:Hid (∀(i:Nat) (r:Nat×Nat),(refSorted ts)[i]? =some r→cs2[i]? =some (Value.int .i64 (symOf ts r))):=Lib.hid (fun (i:Nat) (r:Nat×Nat) hr=>by
    have hi:=(List.getElem?_eq_some_iff.1 hr).1
    refine (hcs2 _ (by omega)).trans ?_
    unfold intCells;rw [List.getElem?_map,List.getElem?_map,hr];rfl)
  clear hAV2 hown2 hge2 hl2 hx2 hcs2
  have c_ks:=f3 ks;have l_ksW2:=lt_of ks
  have hl2:=lt_of ks
  have hl1:=lt_of kr
  go_wp2_with fail
  refine wg fun V3 hV_V3=> ?_
  refine nnf3 hV_V3 hA hF ka kr ks ?_;clear hA hF ka kr ks c_ka c_kx c_kr c_ks kx;intro hn_V3 z_V3 hA hF ka c_ka kr c_kr ks c_ks
  obtain ⟨kp,c_kp,o_kp,l_kpV3⟩:=nN hn_V3 hV_V3 (W2.heap.size)
  obtain ⟨kt,c_kt,o_kt,l_ktV3⟩:=nN hn_V3 hV_V3 (W2.heap.size+1)
  clear hV_V3 hn_V3
  obtain ⟨R,hR⟩: ∃R,R=refSorted ts:=⟨_,rfl⟩
  rw [←hR] at hrows hsyms hRpos
  have hsm:R.length≤500:=by rw [hR];exact sorted_small ts
  have hlt1: ∀(i:Nat) (r:Nat×Nat),R[i]? =some r→ ∃d,ds[r.1]? =some d∧(rowsM ds)[i]? =some (d.1,(r.2:Int),symOf ts r):=by
    intro i r hr
    obtain ⟨t,ht, -⟩:=sorted_valid (hR▸List.mem_of_getElem? hr)
    have h1:=(List.getElem?_eq_some_iff.1 ht).1
    obtain ⟨d,hd⟩:=at_some (show r.1<ds.length by omega)
    refine ⟨d,hd,?_⟩
    unfold rowsM
    rw [←Hts.out,←hR,List.getElem?_map,hr]
    simp [List.getD,hd]
  have hLlen:(rowsM ds).length=R.length:=by unfold rowsM;rw [←Hts.out,←hR,List.length_map]
  have Hlt1:=Lib.hid hlt1;have HR:=Lib.hid hR
  simp only [←hR]
  clear hlt1 hR
  have hneq:g1≠W2.heap.size∧g1≠W2.heap.size+1∧g2≠W2.heap.size∧g2≠W2.heap.size+1∧w.heap.size≠W2.heap.size∧w.heap.size≠W2.heap.size+1∧w.heap.size<W2.heap.size:=by
    have:=lt_of ka
    omega
  obtain ⟨ne1,ne2,ne3,ne4,ne5,ne6,hww⟩:=hneq
  have hY: ∀x,twoX W2.heap.size (W2.heap.size+1) x→w.heap.size≤x:=by
    intro x hx
    rcases hx with rfl|rfl<;>omega
  have hdoc:Hid (Rd2 V3 (.slice (some ad) ds.length cap) ds):=Lib.hid (HD.out.fr hF HO.out (fun h=>h))
  have HF3:=Lib.hid hF
  go_loopg [14,40] R.length (fun k p1 p2 wr=> ∃(i:Nat) (st:Bst) (O':Nat→Prop),p1= .int .i64 st.n∧p2= .int .i64 (i:Int)∧i+k=R.length∧AP wr (.pointer q) st.s O'∧Hid (Fr noX O O' w wr)
    ∧wr.heap[W2.heap.size]? =some (.cells #[.int .i64 st.p.wave, .int .i64 st.p.marks, .int .i64 st.p.spots, .int .i64 st.p.table] 63 (0,0))∧wr.heap[W2.heap.size+1]? =some (.cells #[.bool st.ok] 4 (0,0))∧wr.heap[w.heap.size]? =some (.cells #[.pointer q] 25 (0,0))
    ∧wr.heap[g1]? =some (.cells cs1 T1 (0,0))∧wr.heap[g2]? =some (.cells cs2 T2 (0,0))∧ ¬O' (W2.heap.size)∧ ¬O' (W2.heap.size+1)∧ ¬O' w.heap.size∧ ¬O' g1∧ ¬O' g2∧ ¬O' ad.block∧Hid (Rd2 wr (.slice (some ad) ds.length cap) ds)∧Hid (bRows rate ((rowsM ds).drop i) i st=some B1))
  case atStart=>exact ⟨0,_,O,rfl,rfl,by omega,hA,HF3,kp,kt,ka,kr,ks,o_kp,o_kt,o_ka,o_kr,o_ks,HO.out,hdoc,H1⟩
  case round=>
    clear ka kr ks kp kt c_ka c_kr c_ks c_kp c_kt hA hF hdoc HF3 o_kp o_kt o_ka o_kr o_ks
    obtain ⟨i,st,O1,rfl,rfl,hk,hA,HF,kp,kt,ka,kr,ks,o_kp,o_kt,o_ka,o_kr,o_ks,oD,hdoc,Hb⟩:=hrel
    by_cases hgo:i<R.length∧st.ok=true
    ·
      obtain ⟨hlt,hok⟩:=hgo
      obtain ⟨k,rfl⟩: ∃k,gk=k+1:=⟨gk - 1,by omega⟩
      obtain ⟨r,hr⟩:=at_some hlt
      obtain ⟨d,hd,hx⟩:=Hlt1.out i r hr
      have hb:=Hb.out
      rw [drop_at hx] at hb
      unfold bRows at hb
      rw [hok,if_pos rfl] at hb
      obtain ⟨st2,hst2,hb2⟩:=Option.bind_eq_some_iff.1 hb
      unfold bStep at hst2
      obtain ⟨r1,hr1',hst2⟩:=Option.bind_eq_some_iff.1 hst2
      dsimp only at hr1' hst2
      obtain ⟨r2,hr2',hst2⟩:=Option.bind_eq_some_iff.1 hst2
      obtain ⟨t1,ht1⟩: ∃t,nextA st.ok st.p.wave r1=t:=⟨_,rfl⟩
      rw [ht1] at hr2' hst2
      obtain ⟨t2,ht2⟩: ∃t,nextA t1.2.1 st.p.marks r2=t:=⟨_,rfl⟩
      rw [ht2] at hst2
      have Hr1:=Lib.hid hr1';have Hr2:=Lib.hid hr2';have Hst2:=Lib.hid hst2;have Hb2:=Lib.hid hb2;have Ht1:=Lib.hid ht1;have Ht2:=Lib.hid ht2
      obtain ⟨rc1,rc2⟩:=hrows.out i r hr
      have rc3:=hsyms.out i r hr
      have n1:decide ((i:Int)<(R.length:Int))=true:=by simpa using hlt
      have n2:(i:Int)<(R.length:Int):=by omega
      have E3:=Lib.hid (step_wrap i 500 (by omega) (by omega))
      have hd1:=(List.getElem?_eq_some_iff.1 hd).1
      have n3:(r.1:Int)<(ds.length:Int):=by omega
      have Hd:=Lib.hid hd;have Hlt:=Lib.hid hlt
      clear hb hr1' hr2' hst2 hb2 ht1 ht2 hr hx hd hlt Hb hd1
      have hF:=Fr.refl ((twoX W2.heap.size (W2.heap.size+1))) O1 wr
      have c_ka:=f3 ka;have l_kawr:=lt_of ka
      have c_kr:=f3 kr;have l_krwr:=lt_of kr
      have c_ks:=f3 ks;have l_kswr:=lt_of ks
      have c_kp:=f3 kp;have l_kpwr:=lt_of kp
      have c_kt:=f3 kt;have l_ktwr:=lt_of kt
      go_wp2_with fail
      refine wg fun V4 hV_V4=> ?_
      refine nef5 hV_V4 hA hF ka kr ks kp kt ?_;clear hA hF ka kr ks kp kt c_ka c_kr c_ks c_kp c_kt;intro z_V4 hA hF ka c_ka kr c_kr ks c_ks kp c_kp kt c_kt
      clear hV_V4
      refine dr (fun v=>Sm v V4 (w.heap.size)∧Sm v V4 (g1)∧Sm v V4 (g2)∧Sm v V4 (W2.heap.size)∧Sm v V4 (W2.heap.size+1)∧(V4.heap.size≤v.heap.size)∧True) ⟨fun _=>rfl,fun _=>rfl,fun _=>rfl,fun _=>rfl,fun _=>rfl,Nat.le_refl _,trivial⟩ fun V4d hV_V4d hHeld=> ?_
      have v_ka:=c_ka.1;have v_kr:=c_kr.1;have v_ks:=c_ks.1;have v_kp:=c_kp.1;have v_kt:=c_kt.1
      refine nef5 hV_V4d hA hF ka kr ks kp kt ?_;clear hA hF ka kr ks kp kt c_ka c_kr c_ks c_kp c_kt;intro z_V4d hA hF ka c_ka kr c_kr ks c_ks kp c_kp kt c_kt
      clear hV_V4d
      refine ta 0 hHeld ?_
      refine ta 1 hHeld ?_
      refine ta 2 hHeld ?_
      refine ta 3 hHeld ?_
      refine ta 4 hHeld ?_
      refine ta 5 hHeld ?_
      refine ta 6 hHeld ?_
      refine ta 7 hHeld ?_
      refine rd 8 rfl fun K hK=> ?_
      go_simp
      try simp only [IntWalk.i64_left]
      refine wC (wInsert_calls st.s O1 _ _ _ r1 Hr1.out _ hA) fun W5 O2 hA_W5 hf_W5=> ?_
      refine wif5 hf_W5 hF ka o_ka kr o_kr ks o_ks kp o_kp kt o_kt ?_;clear hA hF ka o_ka kr o_kr ks o_ks kp o_kp kt o_kt c_ka c_kr c_ks c_kp c_kt hf_W5;intro z_W5 hF ka c_ka o_ka kr c_kr o_kr ks c_ks o_ks kp c_kp o_kp kt c_kt o_kt;have hA:=hA_W5;clear hA_W5
      refine ho hK ⟨vv c_ka v_ka,vv c_kr v_kr,vv c_ks v_ks,vv c_kp v_kp,vv c_kt v_kt,by omega,trivial⟩ fun hHeld=> ?_
      clear hK K
      refine ta 9 hHeld ?_
      refine ta 10 hHeld ?_
      refine ta 11 hHeld ?_
      refine rd 12 rfl fun K hK=> ?_
      go_simp
      refine ho hK hHeld fun hHeld=> ?_
      clear hK K
      refine rd 13 rfl fun K hK=> ?_
      go_simp
      refine ho hK hHeld fun hHeld=> ?_
      clear hK K
      refine wd ?_
      go_wp2_with fail
      refine cg fun V5 hV_V5=> ?_
      refine nef5 hV_V5 hA hF ka kr ks kp kt ?_;clear hA hF ka kr ks kp kt c_ka c_kr c_ks c_kp c_kt;intro z_V5 hA hF ka c_ka kr c_kr ks c_ks kp c_kp kt c_kt
      clear hV_V5
      refine tC (next_t (W2.heap.size+1) w.heap.size st.ok st.p.wave r1 t1 Ht1.out _ hA kt ka o_kt o_ka ne6) fun W6 O3 hT hf=> ?_
      refine tx4 hT.hA hT.blk hT.no hf hF ka o_ka kr o_kr ks o_ks kp o_kp ?_;clear hA hF kt c_kt o_kt ka o_ka kr o_kr ks o_ks kp o_kp c_ka c_kr c_ks c_kp hT hf;intro z_W6 hA hF kt c_kt o_kt ka c_ka o_ka kr c_kr o_kr ks c_ks o_ks kp c_kp o_kp
      go_wp2_with fail
      refine cg fun V6 hV_V6=> ?_
      refine nef5 hV_V6 hA hF ka kr ks kp kt ?_;clear hA hF ka kr ks kp kt c_ka c_kr c_ks c_kp c_kt;intro z_V6 hA hF ka c_ka kr c_kr ks c_ks kp c_kp kt c_kt
      clear hV_V6
      have hadlt:ad.block<w.heap.size:=by
        obtain ⟨A,c,hv,hc⟩:=HD.out
        obtain ⟨rfl, -,rfl⟩:=Value.slice.inj hv
        obtain ⟨ad',ha,hlt, -⟩:=hc hlen
        obtain rfl:=Option.some.inj ha
        exact hlt
      have hX: ¬twoX W2.heap.size (W2.heap.size+1) ad.block:=by unfold twoX;omega
      by_cases hm:(r.2:Int) % rate=0
      ·
        have m1:((r.2:Int) % rate==0)=true:=by rw [hm];rfl
        have hst:=Hst2.out
        rw [if_pos hm] at hst
        obtain ⟨r3,hr3',hst⟩:=Option.bind_eq_some_iff.1 hst
        obtain ⟨u,hu,hst⟩:=Option.map_eq_some_iff.1 hst
        obtain ⟨t3,ht3⟩: ∃t,nextA t2.2.1 st.p.spots r3=t:=⟨_,rfl⟩
        rw [ht3] at hu hst
        have Hr3:=Lib.hid hr3';have Hu:=Lib.hid hu;have Hst:=Lib.hid hst;have Ht3:=Lib.hid ht3;have Hm:=Lib.hid hm
        have e2:decide ((r.2:Int) % rate=0)=((r.2:Int) % rate==0):=rfl
        have Hr2':Hid (bInsert t1.2.2 st.p.marks (i:Int) ((r.2:Int) % rate==0)=some r2):=Lib.hid Hr2.out
        rw [m1] at Hr2'⊢
        clear hst hr3' hu ht3 hm e2
        refine wC (bInsert_calls (s:=t1.2.2) _ _ _ r2 Hr2'.out _ hA) fun W7 O4 hA_W7 hf_W7=> ?_
        refine wif5 hf_W7 hF ka o_ka kr o_kr ks o_ks kp o_kp kt o_kt ?_;clear hA hF ka o_ka kr o_kr ks o_ks kp o_kp kt o_kt c_ka c_kr c_ks c_kp c_kt hf_W7;intro z_W7 hF ka c_ka o_ka kr c_kr o_kr ks c_ks o_ks kp c_kp o_kp kt c_kt o_kt;have hA:=hA_W7;clear hA_W7
        go_wp2_with fail
        refine cg fun V7 hV_V7=> ?_
        refine nef5 hV_V7 hA hF ka kr ks kp kt ?_;clear hA hF ka kr ks kp kt c_ka c_kr c_ks c_kp c_kt;intro z_V7 hA hF ka c_ka kr c_kr ks c_ks kp c_kp kt c_kt
        clear hV_V7
        refine tC (next_t (W2.heap.size+1) w.heap.size t1.2.1 st.p.marks r2 t2 Ht2.out _ hA kt ka o_kt o_ka ne6) fun W8 O5 hT hf=> ?_
        refine tx4 hT.hA hT.blk hT.no hf hF ka o_ka kr o_kr ks o_ks kp o_kp ?_;clear hA hF kt c_kt o_kt ka o_ka kr o_kr ks o_ks kp o_kp c_ka c_kr c_ks c_kp hT hf;intro z_W8 hA hF kt c_kt o_kt ka c_ka o_ka kr c_kr o_kr ks c_ks o_ks kp c_kp o_kp
        go_wp2_with fail
        refine wg fun V8 hV_V8=> ?_
        refine nef5 hV_V8 hA hF ka kr ks kp kt ?_;clear hA hF ka kr ks kp kt c_ka c_kr c_ks c_kp c_kt;intro z_V8 hA hF ka c_ka kr c_kr ks c_ks kp c_kp kt c_kt
        clear hV_V8
        obtain ⟨c_d_lt,c_d, -⟩:(ad.add (r.1*2)).block<V8.heap.size∧V8.cell? (ad.add (r.1*2))=some (.int .i64 d.1)∧True:=by
          obtain ⟨A,c,hv,hc⟩:=hdoc.out.fr hF oD hX
          obtain ⟨rfl, -,rfl⟩:=Value.slice.inj hv
          obtain ⟨ad',ha,hlt,hc⟩:=hc hlen
          obtain rfl:=Option.some.inj ha
          obtain ⟨q1,q2, -⟩:=hc r.1 d Hd.out
          exact ⟨q1,q2,trivial⟩
        have c_d_no: ¬O5 (ad.add (r.1*2)).block:=by
          rw [block_of_add]
          exact hF.not_own (by have:=hF.size;omega) oD
        refine dr (fun v=>(v.cell? (ad.add (r.1*2))=some (.int .i64 d.1))∧Sm v V8 (w.heap.size)∧Sm v V8 (g1)∧Sm v V8 (g2)∧Sm v V8 (W2.heap.size)∧Sm v V8 (W2.heap.size+1)∧(V8.heap.size≤v.heap.size)∧True) ⟨c_d,fun _=>rfl,fun _=>rfl,fun _=>rfl,fun _=>rfl,fun _=>rfl,Nat.le_refl _,trivial⟩ fun V8d hV_V8d hHeld=> ?_
        have v_ka:=c_ka.1;have v_kr:=c_kr.1;have v_ks:=c_ks.1;have v_kp:=c_kp.1;have v_kt:=c_kt.1
        replace c_d:V8d.cell? (ad.add (r.1*2))=some (.int .i64 d.1):=by rw [hV_V8d];exact c_d
        replace c_d_lt:((ad.add (r.1*2))).block<V8d.heap.size:=by rw [hV_V8d];exact c_d_lt
        refine nef5 hV_V8d hA hF ka kr ks kp kt ?_;clear hA hF ka kr ks kp kt c_ka c_kr c_ks c_kp c_kt;intro z_V8d hA hF ka c_ka kr c_kr ks c_ks kp c_kp kt c_kt
        clear hV_V8d
        refine ta 0 hHeld ?_
        refine ta 1 hHeld ?_
        refine ta 2 hHeld ?_
        refine ta 3 hHeld ?_
        refine ta 4 hHeld ?_
        refine ta 5 hHeld ?_
        refine ta 6 hHeld ?_
        refine ta 7 hHeld ?_
        refine ta 8 hHeld ?_
        refine ta 9 hHeld ?_
        refine ta 10 hHeld ?_
        refine ta 11 hHeld ?_
        refine ta 12 hHeld ?_
        refine ta 13 hHeld ?_
        refine ta 14 hHeld ?_
        refine ta 15 hHeld ?_
        refine ta 16 hHeld ?_
        refine ta 17 hHeld ?_
        refine ta 18 hHeld ?_
        refine rd 19 rfl fun K hK=> ?_
        go_simp
        try simp only [IntWalk.i64_left]
        refine wC (lInsert_calls (s:=t2.2.2) _ _ (d.1,(r.2:Int)) r3 Hr3.out _ hA) fun W9 O6 hA_W9 hf_W9=> ?_
        have q_ka:=hf_W9.keep ka o_ka (fun h=>h)
        have q_kr:=hf_W9.keep kr o_kr (fun h=>h)
        have q_ks:=hf_W9.keep ks o_ks (fun h=>h)
        have q_kp:=hf_W9.keep kp o_kp (fun h=>h)
        have q_kt:=hf_W9.keep kt o_kt (fun h=>h)
        replace o_ka:=hf_W9.not_own (lt_of ka) o_ka
        clear ka c_ka;have ka:=q_ka;clear q_ka
        have c_ka:=f3 ka;have l_kaW9:=lt_of ka
        replace o_kr:=hf_W9.not_own (lt_of kr) o_kr
        clear kr c_kr;have kr:=q_kr;clear q_kr
        have c_kr:=f3 kr;have l_krW9:=lt_of kr
        replace o_ks:=hf_W9.not_own (lt_of ks) o_ks
        clear ks c_ks;have ks:=q_ks;clear q_ks
        have c_ks:=f3 ks;have l_ksW9:=lt_of ks
        replace o_kp:=hf_W9.not_own (lt_of kp) o_kp
        clear kp c_kp;have kp:=q_kp;clear q_kp
        have c_kp:=f3 kp;have l_kpW9:=lt_of kp
        replace o_kt:=hf_W9.not_own (lt_of kt) o_kt
        clear kt c_kt;have kt:=q_kt;clear q_kt
        have c_kt:=f3 kt;have l_ktW9:=lt_of kt
        replace c_d:=(cell_same (hf_W9.block _ c_d_lt c_d_no (fun h=>h))).trans c_d
        clear c_d_lt c_d_no
        replace hF:=hF.trans hf_W9.widen
        have z_W9:=hf_W9.size
        clear hA hf_W9;have hA:=hA_W9;clear hA_W9
        refine ho hK ⟨c_d,vv c_ka v_ka,vv c_kr v_kr,vv c_ks v_ks,vv c_kp v_kp,vv c_kt v_kt,by omega,trivial⟩ fun hHeld=> ?_
        clear hK K
        refine ta 20 hHeld ?_
        refine ta 21 hHeld ?_
        refine ta 22 hHeld ?_
        refine rd 23 rfl fun K hK=> ?_
        go_simp
        refine ho hK hHeld fun hHeld=> ?_
        clear hK K
        refine rd 24 rfl fun K hK=> ?_
        go_simp
        refine ho hK hHeld fun hHeld=> ?_
        clear hK K
        refine wd ?_
        go_wp2_with fail
        refine cg fun V9 hV_V9=> ?_
        refine nef5 hV_V9 hA hF ka kr ks kp kt ?_;clear hA hF ka kr ks kp kt c_ka c_kr c_ks c_kp c_kt;intro z_V9 hA hF ka c_ka kr c_kr ks c_ks kp c_kp kt c_kt
        clear hV_V9
        refine tC (next_t (W2.heap.size+1) w.heap.size t2.2.1 st.p.spots r3 t3 Ht3.out _ hA kt ka o_kt o_ka ne6) fun W10 O7 hT hf=> ?_
        refine tx4 hT.hA hT.blk hT.no hf hF ka o_ka kr o_kr ks o_ks kp o_kp ?_;clear hA hF kt c_kt o_kt ka o_ka kr o_kr ks o_ks kp o_kp c_ka c_kr c_ks c_kp hT hf;intro z_W10 hA hF kt c_kt o_kt ka c_ka o_ka kr c_kr o_kr ks c_ks o_ks kp c_kp o_kp
        go_wp2_with fail
        refine cg fun V10 hV_V10=> ?_
        refine nef5 hV_V10 hA hF ka kr ks kp kt ?_;clear hA hF ka kr ks kp kt c_ka c_kr c_ks c_kp c_kt;intro z_V10 hA hF ka c_ka kr c_kr ks c_ks kp c_kp kt c_kt
        clear hV_V10
        refine wC (work_calls (s:=t3.2.2) 1073741824 u Hu.out _ hA) fun W11 O8 hA_W11 hf_W11=> ?_
        refine wif5 hf_W11 hF ka o_ka kr o_kr ks o_ks kp o_kp kt o_kt ?_;clear hA hF ka o_ka kr o_kr ks o_ks kp o_kp kt o_kt c_ka c_kr c_ks c_kp c_kt hf_W11;intro z_W11 hF ka c_ka o_ka kr c_kr o_kr ks c_ks o_ks kp c_kp o_kp kt c_kt o_kt;have hA:=hA_W11;clear hA_W11
        obtain rfl:=Hst.out
        have HF2:=Lib.hid (HF.out.trans_own hF hY)
        have hdoc2:=Lib.hid (hdoc.out.fr hF oD hX)
        have oD2:=hF.not_own (by have:=HF.out.size;omega) oD
        have HA2:=Lib.hid hA
        clear hF hdoc oD hA
        go_wp2_with fail
        go_roundg k
        case measure=>omega
        case rel=>exact ⟨i+1,_,O8,rfl,by first|rfl|(rw [E3.out];rfl),by omega,HA2.out,HF2,kp,kt,ka,kr,ks,o_kp,o_kt,o_ka,o_kr,o_ks,oD2,hdoc2,Lib.hid (by exact Hb2.out)⟩
      ·
        have m1:((r.2:Int) % rate==0)=false:=by rw [beq_eq_false_iff_ne];exact hm
        have hst:=Hst2.out
        rw [if_neg hm] at hst
        obtain ⟨u,hu,hst⟩:=Option.map_eq_some_iff.1 hst
        have Hu:=Lib.hid hu;have Hst:=Lib.hid hst;have Hm:=Lib.hid hm
        have Hr2':Hid (bInsert t1.2.2 st.p.marks (i:Int) ((r.2:Int) % rate==0)=some r2):=Lib.hid Hr2.out
        rw [m1] at Hr2'⊢
        clear hst hu hm
        refine wC (bInsert_calls (s:=t1.2.2) _ _ _ r2 Hr2'.out _ hA) fun W7 O4 hA_W7 hf_W7=> ?_
        refine wif5 hf_W7 hF ka o_ka kr o_kr ks o_ks kp o_kp kt o_kt ?_;clear hA hF ka o_ka kr o_kr ks o_ks kp o_kp kt o_kt c_ka c_kr c_ks c_kp c_kt hf_W7;intro z_W7 hF ka c_ka o_ka kr c_kr o_kr ks c_ks o_ks kp c_kp o_kp kt c_kt o_kt;have hA:=hA_W7;clear hA_W7
        go_wp2_with fail
        refine cg fun V7 hV_V7=> ?_
        refine nef5 hV_V7 hA hF ka kr ks kp kt ?_;clear hA hF ka kr ks kp kt c_ka c_kr c_ks c_kp c_kt;intro z_V7 hA hF ka c_ka kr c_kr ks c_ks kp c_kp kt c_kt
        clear hV_V7
        refine tC (next_t (W2.heap.size+1) w.heap.size t1.2.1 st.p.marks r2 t2 Ht2.out _ hA kt ka o_kt o_ka ne6) fun W8 O5 hT hf=> ?_
        refine tx4 hT.hA hT.blk hT.no hf hF ka o_ka kr o_kr ks o_ks kp o_kp ?_;clear hA hF kt c_kt o_kt ka o_ka kr o_kr ks o_ks kp o_kp c_ka c_kr c_ks c_kp hT hf;intro z_W8 hA hF kt c_kt o_kt ka c_ka o_ka kr c_kr o_kr ks c_ks o_ks kp c_kp o_kp
        go_wp2_with fail
        refine cg fun V8 hV_V8=> ?_
        refine nef5 hV_V8 hA hF ka kr ks kp kt ?_;clear hA hF ka kr ks kp kt c_ka c_kr c_ks c_kp c_kt;intro z_V8 hA hF ka c_ka kr c_kr ks c_ks kp c_kp kt c_kt
        clear hV_V8
        refine wC (work_calls (s:=t2.2.2) 1073741824 u Hu.out _ hA) fun W11 O8 hA_W11 hf_W11=> ?_
        refine wif5 hf_W11 hF ka o_ka kr o_kr ks o_ks kp o_kp kt o_kt ?_;clear hA hF ka o_ka kr o_kr ks o_ks kp o_kp kt o_kt c_ka c_kr c_ks c_kp c_kt hf_W11;intro z_W11 hF ka c_ka o_ka kr c_kr o_kr ks c_ks o_ks kp c_kp o_kp kt c_kt o_kt;have hA:=hA_W11;clear hA_W11
        obtain rfl:=Hst.out
        have HF2:=Lib.hid (HF.out.trans_own hF hY)
        have hdoc2:=Lib.hid (hdoc.out.fr hF oD hX)
        have oD2:=hF.not_own (by have:=HF.out.size;omega) oD
        have HA2:=Lib.hid hA
        clear hF hdoc oD hA
        go_wp2_with fail
        go_roundg k
        case measure=>omega
        case rel=>exact ⟨i+1,(⟨u.2,t2.2.1,⟨t1.1,t2.1,st.p.spots,st.p.table⟩,st.n⟩:Bst),O8,rfl,by first|rfl|(rw [E3.out];rfl),by omega,HA2.out,HF2,kp,kt,ka,kr,ks,o_kp,o_kt,o_ka,o_kr,o_ks,oD2,hdoc2,Lib.hid (by exact Hb2.out)⟩
    ·
      have hst1:st=B1∧ ∃bb,decide ((i:Int)<(R.length:Int))=bb∧(bb=false∧ ¬i<R.length∨bb=true∧i<R.length∧st.ok=false):=by
        by_cases h:i<R.length
        ·
          have hf:st.ok=false:=by
            cases hb:st.ok with
            | false=>rfl
            | true=>exact absurd ⟨h,hb⟩ hgo
          exact ⟨bRows_stop Hb.out hf,_,by simpa using h, .inr ⟨rfl,h,hf⟩⟩
        ·
          have hb:=Hb.out
          rw [List.drop_of_length_le (by omega)] at hb
          unfold bRows at hb
          exact ⟨Option.some.inj hb,_,by simpa using h, .inl ⟨rfl,h⟩⟩
      obtain ⟨rfl,bb,n1,hex⟩:=hst1
      clear Hb hgo hk
      have c_kt:=cells_of kt
      rcases hex with ⟨rfl,hlt1⟩|⟨rfl,hlt1,hof⟩<;>
      (skip
       go_wp2_with fail
       go_loopg [126] ds.length (fun k p1 wr=> ∃(i:Nat) (st:Bst) (O':Nat→Prop),p1= .int .i64 (i:Int)∧i+k=ds.length∧AP wr (.pointer q) st.s O'∧Hid (Fr noX O O' w wr)
         ∧wr.heap[W2.heap.size]? =some (.cells #[.int .i64 st.p.wave, .int .i64 st.p.marks, .int .i64 st.p.spots, .int .i64 st.p.table] 63 (0,0))∧wr.heap[W2.heap.size+1]? =some (.cells #[.bool st.ok] 4 (0,0))∧wr.heap[w.heap.size]? =some (.cells #[.pointer q] 25 (0,0))
         ∧ ¬O' (W2.heap.size)∧ ¬O' (W2.heap.size+1)∧ ¬O' w.heap.size∧ ¬O' ad.block∧Hid (Rd2 wr (.slice (some ad) ds.length cap) ds)∧Hid (bTable ((docsM ds).drop i) st=some B2))
       case atStart=>exact ⟨0,_,O1,rfl,by omega,hA,HF,kp,kt,ka,o_kp,o_kt,o_ka,oD,hdoc,H2⟩
       case round=>
         clear hA HF kp kt ka kr ks o_kp o_kt o_ka o_kr o_ks oD hdoc
         obtain ⟨i,st,O1,rfl,hk,hA,HF,kp,kt,ka,o_kp,o_kt,o_ka,oD,hdoc,Hb⟩:=hrel
         have hadlt:ad.block<w.heap.size:=by
           obtain ⟨A,c,hv,hc⟩:=HD.out
           obtain ⟨rfl, -,rfl⟩:=Value.slice.inj hv
           obtain ⟨ad',ha,hlt, -⟩:=hc hlen
           obtain rfl:=Option.some.inj ha
           exact hlt
         have hX: ¬twoX W2.heap.size (W2.heap.size+1) ad.block:=by unfold twoX;omega
         by_cases hlt:i<ds.length
         ·
           obtain ⟨k,rfl⟩: ∃k,gk=k+1:=⟨gk - 1,by omega⟩
           obtain ⟨d,hd⟩:=at_some hlt
           have hx:(docsM ds)[i]? =some (d.1,(d.2.length:Int)):=by unfold docsM;rw [List.getElem?_map,hd];rfl
           have hb:=Hb.out
           rw [drop_at hx] at hb
           unfold bTable at hb
           obtain ⟨a,ha,hb⟩:=Option.bind_eq_some_iff.1 hb
           have hla:a.length≤50000:=by
             by_cases h:a.length≤50000
             ·
               exact h
             ·
               rw [if_neg h] at hb;cases hb
           rw [if_pos hla] at hb
           obtain ⟨r,hr,hb⟩:=Option.bind_eq_some_iff.1 hb
           obtain ⟨t,ht⟩: ∃t,nextA st.ok st.p.table r=t:=⟨_,rfl⟩
           rw [ht] at hb
           dsimp only at hr
           have Ha:=Lib.hid ha;have Hr:=Lib.hid hr;have Hb2:=Lib.hid hb;have Ht:=Lib.hid ht
           have m1:decide ((i:Int)<(ds.length:Int))=true:=by simpa using hlt
           have m2:(i:Int)<(ds.length:Int):=by omega
           have E3:=Lib.hid (step_wrap i 500 (by omega) (by omega))
           obtain ⟨cd1,cd2⟩:wr.cell? (ad.add (i*2))=some (.int .i64 d.1)∧wr.cell? ⟨(ad.add (i*2)).block,(ad.add (i*2)).off+1,none⟩=some (.string ⟨d.2.toArray⟩):=by
             obtain ⟨A,c,hv,hc⟩:=hdoc.out
             obtain ⟨rfl, -,rfl⟩:=Value.slice.inj hv
             obtain ⟨ad',ha,hlt,hc⟩:=hc hlen
             obtain rfl:=Option.some.inj ha
             obtain ⟨-,q1,q2⟩:=hc i d hd
             exact ⟨q1,q2⟩
           clear hb ha hr ht hd hx hlt Hb
           have hF:=Fr.refl ((twoX W2.heap.size (W2.heap.size+1))) O1 wr
           have c_ka:=f3 ka;have l_kawr:=lt_of ka
           have c_kp:=f3 kp;have l_kpwr:=lt_of kp
           have c_kt:=f3 kt;have l_ktwr:=lt_of kt
           go_wp2_with fail
           refine cg fun V4 hV_V4=> ?_
           refine nef3 hV_V4 hA hF ka kp kt ?_;clear hA hF ka kp kt c_ka c_kp c_kt;intro z_V4 hA hF ka c_ka kp c_kp kt c_kt
           clear hV_V4
           refine wC (tAdd_calls _ _ _ a Ha.out hla r Hr.out _ hA) fun W5 O2 hA_W5 hf_W5=> ?_
           refine wif3 hf_W5 hF ka o_ka kp o_kp kt o_kt ?_;clear hA hF ka o_ka kp o_kp kt o_kt c_ka c_kp c_kt hf_W5;intro z_W5 hF ka c_ka o_ka kp c_kp o_kp kt c_kt o_kt;have hA:=hA_W5;clear hA_W5
           go_wp2_with fail
           refine cg fun V5 hV_V5=> ?_
           refine nef3 hV_V5 hA hF ka kp kt ?_;clear hA hF ka kp kt c_ka c_kp c_kt;intro z_V5 hA hF ka c_ka kp c_kp kt c_kt
           clear hV_V5
           refine tC (next_t (W2.heap.size+1) w.heap.size st.ok st.p.table r t Ht.out _ hA kt ka o_kt o_ka ne6) fun W6 O3 hT hf=> ?_
           refine tx2 hT.hA hT.blk hT.no hf hF ka o_ka kp o_kp ?_;clear hA hF kt c_kt o_kt ka o_ka kp o_kp c_ka c_kp hT hf;intro z_W6 hA hF kt c_kt o_kt ka c_ka o_ka kp c_kp o_kp
           clear cd1 cd2
           go_wp2_with fail
           refine handed_gen fun V6 hV_V6=> ?_
           refine nef3 hV_V6 hA hF ka kp kt ?_;clear hA hF ka kp kt c_ka c_kp c_kt;intro z_V6 hA hF ka c_ka kp c_kp kt c_kt
           clear hV_V6
           have HF2:=Lib.hid (HF.out.trans_own hF hY)
           have hdoc2:=Lib.hid (hdoc.out.fr hF oD hX)
           have oD2:=hF.not_own (by have:=HF.out.size;omega) oD
           go_roundg k
           case measure=>omega
           case rel=>exact ⟨i+1,(⟨t.2.2,t.2.1,⟨st.p.wave,st.p.marks,st.p.spots,t.1⟩,st.n⟩:Bst),O3,by first|rfl|(rw [E3.out];rfl),by omega,hA,HF2,kp,kt,ka,o_kp,o_kt,o_ka,oD2,hdoc2,Lib.hid (by exact Hb2.out)⟩
         ·
           obtain rfl:i=ds.length:=by omega
           have hDlen:(docsM ds).length=ds.length:=by unfold docsM;rw [List.length_map]
           have hb:=Hb.out
           rw [List.drop_of_length_le (by omega)] at hb
           unfold bTable at hb
           obtain rfl:=Option.some.inj hb
           have m1:decide ((ds.length:Int)<(ds.length:Int))=false:=by simp
           have h3:=H3.out
           unfold bEnd at h3
           obtain ⟨t4,ht4⟩: ∃t,(if st.ok then nextA true 0 (vMake st.s st.p) else (0,false,st.s))=t:=⟨_,rfl⟩
           rw [ht4] at h3
           dsimp only at h3
           have hz4:t4.2.1=false→t4.1=0:=by
             intro hf
             rw [←ht4] at hf⊢
             cases hk:st.ok with
             | false=>rfl
             | true=>
               rw [hk,if_pos rfl] at hf
               rw [if_pos rfl]
               unfold nextA at hf⊢
               split at hf
               ·
                 cases hf
               ·
                 rename_i h;rw [if_neg h]
           obtain ⟨u,hu,h3⟩:=Option.map_eq_some_iff.1 h3
           have Hu:=Lib.hid hu;have H3':=Lib.hid h3;have Hz4:=Lib.hid hz4
           clear hb Hb hlt hk h3 hu hz4
           by_cases ok2:st.ok=true
           case' pos=>
             rw [ok2,if_pos rfl] at ht4
             rw [ok2] at kt
             have Ht4:=Lib.hid ht4
             have E1:Hid (t4.1=t4.1):=Lib.hid rfl
             clear ht4
             have hF:=Fr.refl ((twoX W2.heap.size (W2.heap.size+1))) O1 wr
             have c_ka:=f3 ka;have l_kawr:=lt_of ka
             have c_kp:=f3 kp;have l_kpwr:=lt_of kp
             have c_kt:=f3 kt;have l_ktwr:=lt_of kt
             go_wp2_with fail
             refine cg fun V4 hV_V4=> ?_
             refine nef3 hV_V4 hA hF ka kp kt ?_;clear hA hF ka kp kt c_ka c_kp c_kt;intro z_V4 hA hF ka c_ka kp c_kp kt c_kt
             clear hV_V4
             refine wC (vMake_calls st.p _ hA) fun W5 O2 hA_W5 hf_W5=> ?_
             refine wif3 hf_W5 hF ka o_ka kp o_kp kt o_kt ?_;clear hA hF ka o_ka kp o_kp kt o_kt c_ka c_kp c_kt hf_W5;intro z_W5 hF ka c_ka o_ka kp c_kp o_kp kt c_kt o_kt;have hA:=hA_W5;clear hA_W5
             go_wp2_with fail
             refine cg fun V5 hV_V5=> ?_
             refine nef3 hV_V5 hA hF ka kp kt ?_;clear hA hF ka kp kt c_ka c_kp c_kt;intro z_V5 hA hF ka c_ka kp c_kp kt c_kt
             clear hV_V5
             refine tC (next_t (W2.heap.size+1) w.heap.size true 0 (vMake st.s st.p) t4 Ht4.out _ hA kt ka o_kt o_ka ne6) fun W6 O3 hT hf=> ?_
             refine tx2 hT.hA hT.blk hT.no hf hF ka o_ka kp o_kp ?_;clear hA hF kt c_kt o_kt ka o_ka kp o_kp c_ka c_kp hT hf;intro z_W6 hA hF kt c_kt o_kt ka c_ka o_ka kp c_kp o_kp
             have HF6:=Lib.hid (HF.out.trans_own hF hY)
             clear hF HF Ht4
             obtain ⟨K0,e2⟩: ∃x,x=t4.2.1:=⟨_,rfl⟩
             rw [←e2] at kt
             have E2:=Lib.hid e2
             clear e2
           case' neg=>
             have okf:st.ok=false:=Bool.eq_false_iff.2 ok2
             rw [okf,if_neg (by decide)] at ht4
             rw [okf] at kt
             have e1:0=t4.1:=by rw [←ht4]
             have e2:false=t4.2.1:=by rw [←ht4]
             have e3:st.s=t4.2.2:=by rw [←ht4]
             clear ht4 ok2 okf
             rw [e3] at hA
             have HF6:=HF
             have E1:=Lib.hid e1;have E2:=Lib.hid e2
             clear HF e1 e2 e3
             obtain ⟨W6,rfl⟩: ∃x,x=wr:=⟨_,rfl⟩
             obtain ⟨O3,rfl⟩: ∃x,x=O1:=⟨_,rfl⟩
           all_goals
            (skip
             have hF:=Fr.refl (noX) O3 W6
             have c_ka:=f3 ka;have l_kaW6:=lt_of ka
             have c_kp:=f3 kp;have l_kpW6:=lt_of kp
             have c_kt:=f3 kt;have l_ktW6:=lt_of kt
             go_wp2_with fail
             refine wg fun V6 hV_V6=> ?_
             refine nnf3 hV_V6 hA hF ka kp kt ?_;clear hA hF ka kp kt c_ka c_kp c_kt;intro hn_V6 z_V6 hA hF ka c_ka kp c_kp kt c_kt
             obtain ⟨kl,c_kl,o_kl,l_klV6⟩:=nN hn_V6 hV_V6 (W6.heap.size)
             clear hV_V6 hn_V6
             rw [E2.out] at kt
             obtain ⟨K,hK⟩: ∃K,t4.2.1=K:=⟨_,rfl⟩
             rw [hK] at kt
             have HF7:=Lib.hid (HF6.out.trans hF)
             have HA6:=Lib.hid hA
             have ka2:=ka;have kt2:=kt;have o_ka2:=o_ka;have o_kt2:=o_kt
             clear hA hF HF6 kp c_kp o_kp ka c_ka kt c_kt o_ka o_kt c_kl
             go_loopw [171] (fun y w3=> ∃i:Nat,i≤4∧y= .int .i64 i∧ ∃O',AP w3 (.pointer q) ([st.p.wave,st.p.marks,st.p.spots,st.p.table].take i|>.foldl dropP t4.2.2) O'∧Fr noX O O' w w3∧w3.heap[W6.heap.size]? =some (.cells #[.int .i64 st.p.wave, .int .i64 st.p.marks, .int .i64 st.p.spots, .int .i64 st.p.table] 3 (0,0))∧w3.heap[w.heap.size]? =some (.cells #[.pointer q] 25 (0,0))∧w3.heap[W2.heap.size+1]? =some (.cells #[.bool K] 4 (0,0))∧ ¬O' W6.heap.size∧ ¬O' w.heap.size∧ ¬O' (W2.heap.size+1)) (fun y _=>4 - (intOf y).toNat)
             case atStart=>exact ⟨0,by omega,rfl,_,HA6.out,HF7.out,kl,ka2,kt2,o_kl,o_ka2,o_kt2⟩
             case round=>
               clear HA6 HF7 kl ka2 kt2 o_kl o_ka2 o_kt2
               obtain ⟨i,hi,rfl,O',hA',hF',kl,ka2,kt2,o_kl,o_ka2,o_kt2⟩:=hrel
               have c_kl:=cells_of kl
               rcases (show i=0∨i=1∨i=2∨i=3∨i=4 by omega) with rfl|rfl|rfl|rfl|rfl
               ·
                 have HA:=Lib.hid hA';have HF5:=Lib.hid hF';clear hA' hF'
                 by_cases hz:st.p.wave=0
                 ·
                   have z1:(st.p.wave !=0)=false:=by simp [hz]
                   have hd:Hid ((dropP t4.2.2 st.p.wave)=t4.2.2):=Lib.hid (by show dropP _ _=_;unfold dropP;rw [if_pos hz])
                   clear hz
                   go_wp2_with fail
                   go_roundw
                   case rel=>exact ⟨1,by omega,rfl,O',by show AP wr (.pointer q) (dropP t4.2.2 st.p.wave) O';rw [hd.out];exact HA.out,HF5.out,kl,ka2,kt2,o_kl,o_ka2,o_kt2⟩
                   case measure=>simp [intOf]
                 ·
                   have z1:(st.p.wave !=0)=true:=by simp [hz]
                   have hd:Hid ((dropP t4.2.2 st.p.wave)=(t4.2.2).drop st.p.wave):=Lib.hid (by show dropP _ _=_;unfold dropP;rw [if_neg hz])
                   clear hz
                   have c_ka2:=cells_of ka2
                   go_wp2_with fail
                   refine (drop_calls _ _ HA.out).mono ?_
                   rintro e1 w1 ⟨rfl,O3,hA1,hf1⟩
                   go_wp2_with fail
                   go_roundw
                   case rel=>exact ⟨1,by omega,rfl,O3,by show AP w1 (.pointer q) (dropP t4.2.2 st.p.wave) O3;rw [hd.out];exact hA1,HF5.out.trans hf1.widen,hf1.keep kl o_kl (fun h=>h),hf1.keep ka2 o_ka2 (fun h=>h),hf1.keep kt2 o_kt2 (fun h=>h),hf1.not_own (lt_of kl) o_kl,hf1.not_own (lt_of ka2) o_ka2,hf1.not_own (lt_of kt2) o_kt2⟩
                   case measure=>simp [intOf]
               ·
                 have HA:=Lib.hid hA';have HF5:=Lib.hid hF';clear hA' hF'
                 by_cases hz:st.p.marks=0
                 ·
                   have z1:(st.p.marks !=0)=false:=by simp [hz]
                   have hd:Hid ((dropP (dropP t4.2.2 st.p.wave) st.p.marks)=(dropP t4.2.2 st.p.wave)):=Lib.hid (by show dropP _ _=_;unfold dropP;rw [if_pos hz])
                   clear hz
                   go_wp2_with fail
                   go_roundw
                   case rel=>exact ⟨2,by omega,rfl,O',by show AP wr (.pointer q) (dropP (dropP t4.2.2 st.p.wave) st.p.marks) O';rw [hd.out];exact HA.out,HF5.out,kl,ka2,kt2,o_kl,o_ka2,o_kt2⟩
                   case measure=>simp [intOf]
                 ·
                   have z1:(st.p.marks !=0)=true:=by simp [hz]
                   have hd:Hid ((dropP (dropP t4.2.2 st.p.wave) st.p.marks)=((dropP t4.2.2 st.p.wave)).drop st.p.marks):=Lib.hid (by show dropP _ _=_;unfold dropP;rw [if_neg hz])
                   clear hz
                   have c_ka2:=cells_of ka2
                   go_wp2_with fail
                   refine (drop_calls _ _ HA.out).mono ?_
                   rintro e1 w1 ⟨rfl,O3,hA1,hf1⟩
                   go_wp2_with fail
                   go_roundw
                   case rel=>exact ⟨2,by omega,rfl,O3,by show AP w1 (.pointer q) (dropP (dropP t4.2.2 st.p.wave) st.p.marks) O3;rw [hd.out];exact hA1,HF5.out.trans hf1.widen,hf1.keep kl o_kl (fun h=>h),hf1.keep ka2 o_ka2 (fun h=>h),hf1.keep kt2 o_kt2 (fun h=>h),hf1.not_own (lt_of kl) o_kl,hf1.not_own (lt_of ka2) o_ka2,hf1.not_own (lt_of kt2) o_kt2⟩
                   case measure=>simp [intOf]
               ·
                 have HA:=Lib.hid hA';have HF5:=Lib.hid hF';clear hA' hF'
                 by_cases hz:st.p.spots=0
                 ·
                   have z1:(st.p.spots !=0)=false:=by simp [hz]
                   have hd:Hid ((dropP (dropP (dropP t4.2.2 st.p.wave) st.p.marks) st.p.spots)=(dropP (dropP t4.2.2 st.p.wave) st.p.marks)):=Lib.hid (by show dropP _ _=_;unfold dropP;rw [if_pos hz])
                   clear hz
                   go_wp2_with fail
                   go_roundw
                   case rel=>exact ⟨3,by omega,rfl,O',by show AP wr (.pointer q) (dropP (dropP (dropP t4.2.2 st.p.wave) st.p.marks) st.p.spots) O';rw [hd.out];exact HA.out,HF5.out,kl,ka2,kt2,o_kl,o_ka2,o_kt2⟩
                   case measure=>simp [intOf]
                 ·
                   have z1:(st.p.spots !=0)=true:=by simp [hz]
                   have hd:Hid ((dropP (dropP (dropP t4.2.2 st.p.wave) st.p.marks) st.p.spots)=((dropP (dropP t4.2.2 st.p.wave) st.p.marks)).drop st.p.spots):=Lib.hid (by show dropP _ _=_;unfold dropP;rw [if_neg hz])
                   clear hz
                   have c_ka2:=cells_of ka2
                   go_wp2_with fail
                   refine (drop_calls _ _ HA.out).mono ?_
                   rintro e1 w1 ⟨rfl,O3,hA1,hf1⟩
                   go_wp2_with fail
                   go_roundw
                   case rel=>exact ⟨3,by omega,rfl,O3,by show AP w1 (.pointer q) (dropP (dropP (dropP t4.2.2 st.p.wave) st.p.marks) st.p.spots) O3;rw [hd.out];exact hA1,HF5.out.trans hf1.widen,hf1.keep kl o_kl (fun h=>h),hf1.keep ka2 o_ka2 (fun h=>h),hf1.keep kt2 o_kt2 (fun h=>h),hf1.not_own (lt_of kl) o_kl,hf1.not_own (lt_of ka2) o_ka2,hf1.not_own (lt_of kt2) o_kt2⟩
                   case measure=>simp [intOf]
               ·
                 have HA:=Lib.hid hA';have HF5:=Lib.hid hF';clear hA' hF'
                 by_cases hz:st.p.table=0
                 ·
                   have z1:(st.p.table !=0)=false:=by simp [hz]
                   have hd:Hid ((dropP (dropP (dropP (dropP t4.2.2 st.p.wave) st.p.marks) st.p.spots) st.p.table)=(dropP (dropP (dropP t4.2.2 st.p.wave) st.p.marks) st.p.spots)):=Lib.hid (by show dropP _ _=_;unfold dropP;rw [if_pos hz])
                   clear hz
                   go_wp2_with fail
                   go_roundw
                   case rel=>exact ⟨4,by omega,rfl,O',by show AP wr (.pointer q) (dropP (dropP (dropP (dropP t4.2.2 st.p.wave) st.p.marks) st.p.spots) st.p.table) O';rw [hd.out];exact HA.out,HF5.out,kl,ka2,kt2,o_kl,o_ka2,o_kt2⟩
                   case measure=>simp [intOf]
                 ·
                   have z1:(st.p.table !=0)=true:=by simp [hz]
                   have hd:Hid ((dropP (dropP (dropP (dropP t4.2.2 st.p.wave) st.p.marks) st.p.spots) st.p.table)=((dropP (dropP (dropP t4.2.2 st.p.wave) st.p.marks) st.p.spots)).drop st.p.table):=Lib.hid (by show dropP _ _=_;unfold dropP;rw [if_neg hz])
                   clear hz
                   have c_ka2:=cells_of ka2
                   go_wp2_with fail
                   refine (drop_calls _ _ HA.out).mono ?_
                   rintro e1 w1 ⟨rfl,O3,hA1,hf1⟩
                   go_wp2_with fail
                   go_roundw
                   case rel=>exact ⟨4,by omega,rfl,O3,by show AP w1 (.pointer q) (dropP (dropP (dropP (dropP t4.2.2 st.p.wave) st.p.marks) st.p.spots) st.p.table) O3;rw [hd.out];exact hA1,HF5.out.trans hf1.widen,hf1.keep kl o_kl (fun h=>h),hf1.keep ka2 o_ka2 (fun h=>h),hf1.keep kt2 o_kt2 (fun h=>h),hf1.not_own (lt_of kl) o_kl,hf1.not_own (lt_of ka2) o_ka2,hf1.not_own (lt_of kt2) o_kt2⟩
                   case measure=>simp [intOf]
               ·
                 have HA:=Lib.hid hA';have HF5:=Lib.hid hF';clear hA' hF' c_kl
                 have hA7:AP wr (.pointer q) (dropP (dropP (dropP (dropP t4.2.2 st.p.wave) st.p.marks) st.p.spots) st.p.table) O':=HA.out
                 have HA7:=Lib.hid hA7;clear hA7 HA
                 have c_ka2:=cells_of ka2
                 have hlast:t4.1=root∧K=okr∧u.2=s':=by
                   have h3:=H3'.out
                   rw [if_neg (fun h=>h.2 (Hz4.out h.1))] at h3
                   simp only [Prod.mk.injEq] at h3
                   exact ⟨h3.1,hK.symm.trans h3.2.1,h3.2.2⟩
                 obtain ⟨rfl,rfl,rfl⟩:=hlast
                 have hKK:K=true∨K=false∧(t4.1 !=0)=false:=by
                   cases hk:K with
                   | true=>exact .inl rfl
                   | false=>exact .inr ⟨rfl,by rw [Hz4.out (hK.trans hk)];rfl⟩
                 rcases hKK with rfl|⟨rfl,z0⟩<;>
                 (skip
                  go_wp2_with fail
                  refine (work_calls 1073741824 u Hu.out _ HA7.out).mono ?_
                  rintro e8 W8 ⟨rfl,O8,hA8,hf8⟩
                  have kt8:=hf8.keep kt2 o_kt2 (fun h=>h)
                  have c_kt8:=cells_of kt8
                  have HA8:=Lib.hid hA8
                  have HF8:=Lib.hid (HF5.out.trans hf8)
                  clear hA8 hf8
                  have hA:=HA8.out
                  clear c_kt8 c_ka2
                  have hF:=Fr.refl (noX) O8 W8
                  have c_kt8:=f3 kt8;have l_kt8W8:=lt_of kt8
                  go_wp2_with fail
                  refine wg fun V9 hV_V9=> ?_
                  refine nef1 hV_V9 hA hF kt8 ?_;clear hA hF kt8 c_kt8;intro z_V9 hA hF kt8 c_kt8
                  clear hV_V9
                  refine dr (fun v=>Sm v V9 (W2.heap.size+1)∧(V9.heap.size≤v.heap.size)∧AP v (.pointer q) u.2 O8) ⟨fun _=>rfl,Nat.le_refl _,hA.drew⟩ fun V9d hV_V9d hHeld=> ?_
                  have v_kt8:=c_kt8.1
                  refine nef1 hV_V9d hA hF kt8 ?_;clear hA hF kt8 c_kt8;intro z_V9d hA hF kt8 c_kt8
                  clear hV_V9d
                  refine ta 0 hHeld ?_
                  refine ta 1 hHeld ?_
                  refine rd 2 rfl fun K hK=> ?_
                  go_simp
                  refine ho hK hHeld fun hHeld=> ?_
                  clear hK K
                  refine rd 3 rfl fun K hK=> ?_
                  go_simp
                  refine ho hK hHeld fun hHeld=> ?_
                  clear hK K
                  refine wd ?_
                  have HFF:=Lib.hid (HF8.out.trans hF)
                  have HAA:=Lib.hid hA
                  clear hF hA
                  go_wp2_with fail
                  go_ret2
                  exact ⟨by first|rfl|(rw [←E1.out];rfl),O8,HAA.out,HFF.out⟩)))
end
end Go.Proofs.YtmlmnmkhigjaaaaGreat

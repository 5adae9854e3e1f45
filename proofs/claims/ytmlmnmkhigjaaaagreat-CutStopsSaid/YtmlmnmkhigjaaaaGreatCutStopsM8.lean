/- Part 8 of what CutStops needs: the walks of the program's functions, and plain facts. -/
import Derived.Test.YtmlmnmkhigjaaaaGreatCutStopsM7
import Derived.Test.YtmlmnmkhigjaaaaGreatProg
import Derived.Sort.Grow
import Derived.Laws.StructEq
set_option linter.unusedSimpArgs false
set_option linter.unusedVariables false
set_option linter.unnecessarySimpa false
namespace Go.Proofs.YtmlmnmkhigjaaaaGreat
set_option maxRecDepth 100000
set_option maxHeartbeats 8000000
section
open Go.RowKit
theorem halves_T {t : Tb} {H : List Int} (hI : Inv t.s H) (hH : H.length ≤ 980000) {a b : List Bool} (h16 : 16 ≤ a.length + b.length) (la : a.length ≤ 64) (lb : b.length ≤ 64) :
    Nw t (t.halves a b).2 (t.halves a b).1 H 3∧((t.halves a b).2.e=0→ ∃t',Rep (t.halves a b).2.s (t.halves a b).1 t'∧BitsT 16 t' (a++b)):=by
  have hlen:(a++b).length=a.length+b.length:=List.length_append
  have hnn: ∀x:List Bool,1≤x.length→x≠[]:=fun x hx e=>by rw [e] at hx;simp at hx
  unfold Tb.halves
  by_cases hf:(a.length:Int)+b.length≤64
  · rw [if_pos hf]
    obtain ⟨n1,s1⟩:=leaf_T (t:=t) (l:=a++b) (m:=16) hI (by omega) (hnn _ (by omega)) (by omega) (by omega)
    refine ⟨n1.mono (by omega),fun e=> ?_⟩
    obtain ⟨t',x,y, -⟩:=s1 e
    exact ⟨t',x,y⟩
  · rw [if_neg hf]
    have h1:((a++b).take ((a.length+b.length+1)/2)).length=(a.length+b.length+1)/2:=by rw [List.length_take,hlen];omega
    have h2:((a++b).drop ((a.length+b.length+1)/2)).length=a.length+b.length - (a.length+b.length+1)/2:=by rw [List.length_drop,hlen]
    obtain ⟨n1,s1⟩:=two_T (t:=t) (H:=H) (m:=16) (a:=(a++b).take ((a.length+b.length+1)/2)) (b:=(a++b).drop ((a.length+b.length+1)/2)) hI hH (hnn _ (by omega)) (hnn _ (by omega)) (by omega) (by omega) (by omega) (by omega)
    refine ⟨n1,fun e=> ?_⟩
    have:=s1 e
    rw [List.take_append_drop] at this
    exact this
theorem opened_nw {t : Tb} (he : t.e = 0) {x tag a b : Int} {t0 t1 t2 t3 : Tr} {H : List Int} (hI : Inv t.s (x :: H)) (hH : H.length ≤ 990000) (hr : Rep t.s x (.nd tag a b t0 t1 t2 t3)) :
    Nw t (t.opened x) (t.s.get x).k0 ((t.s.get x).k1::H) 0:=by
  obtain ⟨o1,o2,o3,o4, -, -⟩:=opened_T hI hH hr
  exact ⟨o1,o2,fun e=>absurd (o4.trans he) e,fun e=>absurd he e,by omega,fun _ e=>absurd (o4.trans he) e⟩
theorem pour_T {t : Tr} {l : List Bool} (hb : BitsT 16 t l) : ∀ {k : Nat} {u : Tb} {h small : Int} {H : List Int} {a : List Bool} (ahead : Bool), u.e = 0 → Inv u.s (h :: small :: H) → Rep u.s h t → Rep u.s small (.nd 1 (pack a) a.length .nil .nil .nil .nil) → a.length ≤ 64 → l.length + a.length ≤ 9900 → l.length ≤ k → H.length + l.length ≤ 970000 →
    ∃r,u.pourG k h small ahead=some r∧Nw u r.2 r.1 H (3*t.size)∧(r.2.e=0→ ∃t',Rep r.2.s r.1 t'∧BitsT 16 t' (if ahead then a++l else l++a)):=by
  induction hb with
  | @leaf l h1 h2 h3=>
    intro k u h small H a ahead hu hI hr hs ha hl hk hH
    have:=List.length_pos_iff.2 h1
    obtain ⟨k,rfl⟩: ∃j,k=j+1:=⟨k - 1,by omega⟩
    obtain ⟨ka,kb,kc,kd,hh,hg, -⟩:=hr.get
    obtain ⟨ja,jb,jc,jd,jh,jg, -⟩:=hs.get
    unfold Tb.pourG
    rw [hg,jg]
    dsimp only
    rw [if_pos rfl,(lfB_leaf h3 _ _ _ _).1,(lfB_leaf h3 _ _ _ _).2,(lfB_leaf ha _ _ _ _).1,(lfB_leaf ha _ _ _ _).2,if_pos ⟨rfl,rfl⟩]
    have n0:=drops_nw (t:=u) (l:=[h,small]) (H:=H) hI (by omega)
    cases ahead with
    | true=>
      rw [if_pos rfl,if_pos rfl]
      obtain ⟨n1,s1⟩:=halves_T (t:=u.drops [h,small]) (H:=H) (a:=a) (b:=l) (Inv.dropAll hI) (by omega) (by omega) ha h3
      refine ⟨_,rfl,?_,s1⟩
      refine ⟨n1.inv,n0.grow.trans n1.grow,n1.bad,fun e=>absurd hu e,by have:=n0.cost;have:=n1.cost;simp [Tr.size];omega,fun e e'=>⟨(n1.full hu e').1,?_⟩⟩
      have:=(n1.full hu e').2;have:=n0.cost;have:=n0.grow.size;simp [Tr.size];omega
    | false=>
      rw [if_neg (by decide),if_neg (by decide)]
      obtain ⟨n1,s1⟩:=halves_T (t:=u.drops [h,small]) (H:=H) (a:=l) (b:=a) (Inv.dropAll hI) (by omega) (by omega) h3 ha
      refine ⟨_,rfl,?_,s1⟩
      refine ⟨n1.inv,n0.grow.trans n1.grow,n1.bad,fun e=>absurd hu e,by have:=n0.cost;have:=n1.cost;simp [Tr.size];omega,fun e e'=>⟨(n1.full hu e').1,?_⟩⟩
      have:=(n1.full hu e').2;have:=n0.cost;have:=n0.grow.size;simp [Tr.size];omega
  | @fork t0 t1 l0 l1 b0 b1 i0 i1=>
    intro k u h small H a ahead hu hI hr hs ha hl hk hH
    have p0:=b0.pos;have p1:=b1.pos
    rw [List.length_append] at hl hk hH
    obtain ⟨k,rfl⟩: ∃j,k=j+1:=⟨k - 1,by omega⟩
    have nO:=opened_nw hu hI (by simp;omega) hr
    obtain ⟨o1,o2,o3,o4,o5,o6⟩:=opened_T hI (by simp;omega) hr
    obtain ⟨_,_,_,_,hh,hg, -⟩:=hr.get
    have htag: ¬(u.s.get h).tag=1:=by rw [hg];dsimp only;omega
    unfold Tb.pourG
    rw [if_neg htag]
    cases ahead with
    | true=>
      rw [if_pos rfl]
      obtain ⟨r,e1,n1,s1⟩:=i0 (k:=k) (u:=u.opened h) (h:=(u.s.get h).k0) (small:=small) (H:=(u.s.get h).k1::H) (a:=a) true (o4.trans hu) (o1.perm ((List.Perm.swap _ _ _).cons _)) o5 (hs.grow o2) ha (by omega) (by omega) (by simp;omega)
      rw [e1,Option.bind_some]
      obtain ⟨r',e2,n2,s2⟩:=fork_T (t:=r.2) (x:=r.1) (y:=(u.s.get h).k1) (H:=H) (m:=16) (l0:=a++l0) (l1:=l1) n1.inv (by omega) (by simp;omega) (fun e=>⟨s1 e,_,o6.grow n1.grow,b1⟩)
      refine ⟨r',e2,((nO.trans n1).trans n2).mono (by simp only [Tr.size];omega),fun e=> ?_⟩
      have:=s2 e
      rw [if_pos rfl,←List.append_assoc]
      exact this
    | false=>
      rw [if_neg (by decide)]
      obtain ⟨r,e1,n1,s1⟩:=i1 (k:=k) (u:=u.opened h) (h:=(u.s.get h).k1) (small:=small) (H:=(u.s.get h).k0::H) (a:=a) false (o4.trans hu) (o1.perm ((List.Perm.swap _ _ _).trans ((List.Perm.swap _ _ _).cons _))) o6 (hs.grow o2) ha (by omega) (by omega) (by simp;omega)
      rw [e1,Option.bind_some]
      obtain ⟨r',e2,n2,s2⟩:=fork_T (t:=r.2) (x:=(u.s.get h).k0) (y:=r.1) (H:=H) (m:=16) (l0:=l0) (l1:=l1++a) n1.inv.swap (by omega) (by simp;omega) (fun e=>⟨⟨_,o5.grow n1.grow,b0⟩,s1 e⟩)
      refine ⟨r',e2,((nO.trans n1).trans n2).mono (by simp only [Tr.size];omega),fun e=> ?_⟩
      have:=s2 e
      rw [if_neg (by decide),List.append_assoc]
      exact this
theorem small_T {s:Ar} {h:Int} {t:Tr} {l:List Bool} (hr:Rep s h t) (hb:BitsT 16 t l):Tb.small s h=false:=by
  unfold Tb.small
  cases hb with
  | leaf h1 h2 h3=>
    obtain ⟨_,_,_,_,hh,hg, -⟩:=hr.get
    rw [hg]
    simp only [decide_eq_false (show¬(((l.length:Nat):Int)<16) by omega),Bool.and_false]
  | fork h1 h2=>
    obtain ⟨_,_,_,_,hh,hg, -⟩:=hr.get
    rw [hg]
    simp
theorem bothL_T {t : Tb} {x y : Int} {H : List Int} (hI : Inv t.s (x :: y :: H)) (hH : H.length ≤ 960000) {t0 : Tr} {l0 l1 : List Bool} (hl : (l0 ++ l1).length ≤ 9900) (r0 : Rep t.s x t0) (q0 : BitsT 16 t0 l0) (h : t.e = 0 → ∃ t1, Rep t.s y t1 ∧ BitsR t1 l1) :
    ∃r,t.bothG x y=some r∧Nw t r.2 r.1 H (3*t0.size)∧(r.2.e=0→ ∃t',Rep r.2.s r.1 t'∧BitsT 16 t' (l0++l1)):=by
  have hsz:=q0.nd
  unfold Tb.bothG
  by_cases he:t.e=0
  rotate_left
  · rw [if_neg he]
    exact ⟨_,rfl,(drops_nw (l:=[x,y]) hI (by omega)).mono (by omega),fun h'=>absurd h' he⟩
  rw [if_pos he]
  obtain ⟨t1,r1,q1⟩:=h he
  have x0:=r0.ne_of q0
  rw [if_neg x0]
  rw [List.length_append] at hl
  rcases q1 with ⟨rfl,rfl⟩|⟨q1,hsz1⟩|q1
  · obtain rfl:=r1.zero
    rw [if_pos rfl]
    exact ⟨_,rfl,⟨hI.swap.tail_zero,Grow.refl _,fun e=>absurd he e,fun _=>rfl,Nat.le_add_right _ _,fun _ e=>absurd he e⟩,fun _=>⟨t0,r0,by rw [List.append_nil];exact q0⟩⟩
  · have y0:=r1.ne_of q1
    have c1:t.s.cnt y≠0:=hI.pos (by simp) y0
    rw [if_neg y0,small_T r0 q0,if_neg (by decide)]
    cases q1 with
    | leaf h1 h2 h3=>
      have hb:=bIs_nd hI r1 (.leaf h1 h2 h3) c1
      have hg:=r1.get
      obtain ⟨_,_,_,_,hh,hg, -⟩:=hg
      have hsm:Tb.small t.s y=decide (((l1.length:Nat):Int)<16):=by
        unfold Tb.small
        rw [hb,hg]
        simp
      rw [hsm]
      by_cases h16:((l1.length:Nat):Int)<16
      · rw [decide_eq_true h16,if_pos rfl]
        obtain ⟨r,e1,n1,s1⟩:=pour_T q0 (k:=rounds) (u:=t) (h:=x) (small:=y) (H:=H) (a:=l1) false he hI r0 r1 h3 (by omega) (by unfold rounds;omega) (by omega)
        refine ⟨r,e1,n1,fun e=> ?_⟩
        have:=s1 e
        rw [if_neg (by decide)] at this
        exact this
      · rw [decide_eq_false h16,if_neg (by decide)]
        obtain ⟨r,e1,n1,s1⟩:=fork_T (t:=t) (x:=x) (y:=y) (H:=H) (m:=16) (l0:=l0) (l1:=l1) hI (by omega) (by rw [List.length_append];omega) (fun _=>⟨⟨_,r0,q0⟩,_,r1, .leaf h1 (by omega) h3⟩)
        exact ⟨r,e1,n1.mono (by omega),s1⟩
    | fork h1 h2=>have:=h1.nd;simp [Tr.size] at hsz1;have:=h2.nd;omega
  · have y0:=r1.ne_of q1
    rw [if_neg y0,small_T r0 q0,if_neg (by decide),small_T r1 q1,if_neg (by decide)]
    obtain ⟨r,e1,n1,s1⟩:=fork_T (t:=t) (x:=x) (y:=y) (H:=H) (m:=16) (l0:=l0) (l1:=l1) hI (by omega) (by rw [List.length_append];omega) (fun _=>⟨⟨_,r0,q0⟩,_,r1,q1⟩)
    exact ⟨r,e1,n1.mono (by omega),s1⟩
theorem bothR_T {t : Tb} {x y : Int} {H : List Int} (hI : Inv t.s (x :: y :: H)) (hH : H.length ≤ 960000) {t1 : Tr} {l0 l1 : List Bool} (hl : (l0 ++ l1).length ≤ 9900) (r1 : Rep t.s y t1) (q1 : BitsT 16 t1 l1) (h : t.e = 0 → ∃ t0, Rep t.s x t0 ∧ BitsR t0 l0) :
    ∃r,t.bothG x y=some r∧Nw t r.2 r.1 H (3*t1.size)∧(r.2.e=0→ ∃t',Rep r.2.s r.1 t'∧BitsT 16 t' (l0++l1)):=by
  have hsz:=q1.nd
  unfold Tb.bothG
  by_cases he:t.e=0
  rotate_left
  · rw [if_neg he]
    exact ⟨_,rfl,(drops_nw (l:=[x,y]) hI (by omega)).mono (by omega),fun h'=>absurd h' he⟩
  rw [if_pos he]
  obtain ⟨t0,r0,q0⟩:=h he
  have y0:=r1.ne_of q1
  rw [List.length_append] at hl
  rcases q0 with ⟨rfl,rfl⟩|⟨q0,hsz0⟩|q0
  · obtain rfl:=r0.zero
    rw [if_pos rfl]
    exact ⟨_,rfl,⟨hI.tail_zero,Grow.refl _,fun e=>absurd he e,fun _=>rfl,Nat.le_add_right _ _,fun _ e=>absurd he e⟩,fun _=>⟨t1,r1,by rw [List.nil_append];exact q1⟩⟩
  · have x0:=r0.ne_of q0
    have c0:t.s.cnt x≠0:=hI.pos (by simp) x0
    rw [if_neg x0,if_neg y0]
    cases q0 with
    | leaf h1 h2 h3=>
      have hb:=bIs_nd hI r0 (.leaf h1 h2 h3) c0
      have hg:=r0.get
      obtain ⟨_,_,_,_,hh,hg, -⟩:=hg
      have hsm:Tb.small t.s x=decide (((l0.length:Nat):Int)<16):=by
        unfold Tb.small
        rw [hb,hg]
        simp
      rw [hsm]
      by_cases h16:((l0.length:Nat):Int)<16
      · rw [decide_eq_true h16,if_pos rfl]
        obtain ⟨r,e1,n1,s1⟩:=pour_T q1 (k:=rounds) (u:=t) (h:=y) (small:=x) (H:=H) (a:=l0) true he hI.swap r1 r0 h3 (by omega) (by unfold rounds;omega) (by omega)
        refine ⟨r,e1,n1,fun e=> ?_⟩
        have:=s1 e
        rw [if_pos rfl] at this
        exact this
      · rw [decide_eq_false h16,if_neg (by decide),small_T r1 q1,if_neg (by decide)]
        obtain ⟨r,e1,n1,s1⟩:=fork_T (t:=t) (x:=x) (y:=y) (H:=H) (m:=16) (l0:=l0) (l1:=l1) hI (by omega) (by rw [List.length_append];omega) (fun _=>⟨⟨_,r0, .leaf h1 (by omega) h3⟩,_,r1,q1⟩)
        exact ⟨r,e1,n1.mono (by omega),s1⟩
    | fork h1 h2=>have:=h1.nd;simp [Tr.size] at hsz0;have:=h2.nd;omega
  · have x0:=r0.ne_of q0
    rw [if_neg x0,if_neg y0,small_T r0 q0,if_neg (by decide),small_T r1 q1,if_neg (by decide)]
    obtain ⟨r,e1,n1,s1⟩:=fork_T (t:=t) (x:=x) (y:=y) (H:=H) (m:=16) (l0:=l0) (l1:=l1) hI (by omega) (by rw [List.length_append];omega) (fun _=>⟨⟨_,r0,q0⟩,_,r1,q1⟩)
    exact ⟨r,e1,n1.mono (by omega),s1⟩
theorem delR_in {l:List Bool} {i:Int} (h0:0≤i) (hi:i<l.length):delR true l i=l.eraseIdx i.toNat:=by
  unfold delR delOk
  rw [decide_eq_true h0,decide_eq_true hi]
  rfl
theorem eraseL_length (l:List Bool) (i:Nat) (h:i<l.length):(l.eraseIdx i).length=l.length - 1:=by
  rw [List.length_eraseIdx];simp [h]
theorem cut_leaf {s : Ar} {H : List Int} (hI : Inv s H) (hH : H.length ≤ 980000) {h : Int} {l : List Bool} (hr : Rep s h (.nd 1 (pack l) l.length .nil .nil .nil .nil)) (h64 : l.length ≤ 64)
    (k:Nat) (i:Int) (h0:0≤i) (hi:i<l.length):
    ∃r,Tb.cutG (k+1) ⟨s,0⟩ h i=some r∧Nw ⟨s,0⟩ r.2 r.1 H 1∧(r.2.e=0→ ∃t',Rep r.2.s r.1 t'∧BitsR t' (l.eraseIdx i.toNat)):=by
  obtain ⟨ka,kb,kc,kd,hh,hg, -⟩:=hr.get
  obtain ⟨lb,lk⟩:=lfB_leaf h64 ka kb kc kd
  unfold Tb.cutG
  dsimp only
  rw [hg]
  dsimp only
  rw [if_pos rfl,lb,lk,delR_in h0 hi]
  have hlen:=eraseL_length l i.toNat (by omega)
  by_cases hn:l.eraseIdx i.toNat=[]
  · rw [if_pos hn,hn]
    exact ⟨_,rfl,⟨hI.zero_cons (by omega),Grow.refl _,fun _=>rfl,fun _=>rfl,Nat.le_add_right _ _,fun _ e=>absurd rfl e⟩,fun _=>⟨.nil, .nil, .inl ⟨rfl,rfl⟩⟩⟩
  · rw [if_neg hn]
    have:=List.length_pos_iff.2 hn
    obtain ⟨n1,s1⟩:=leaf_T (t:=⟨s,0⟩) (H:=H) (m:=1) (l:=l.eraseIdx i.toNat) hI (by omega) hn (by omega) (by omega)
    refine ⟨_,rfl,n1,fun e=> ?_⟩
    obtain ⟨t',a,b,c⟩:=s1 e
    exact ⟨t',a, .inr (.inl ⟨b,c⟩)⟩
theorem cut_T {t : Tr} {l : List Bool} (hb : BitsT 16 t l) : ∀ {k : Nat} {s : Ar} {H : List Int} {h i : Int}, Inv s H → Rep s h t → s.cnt h ≠ 0 → l.length ≤ 9000 → l.length ≤ k → H.length + l.length ≤ 950000 → 0 ≤ i → i < l.length →
    ∃r,Tb.cutG k ⟨s,0⟩ h i=some r∧Nw ⟨s,0⟩ r.2 r.1 H (3*t.size)∧(r.2.e=0→ ∃t',Rep r.2.s r.1 t'∧BitsR t' (l.eraseIdx i.toNat)):=by
  induction hb with
  | @leaf l h1 h2 h3=>
    intro k s H h i hI hr hc hl hk hH h0 hi
    obtain ⟨k,rfl⟩: ∃j,k=j+1:=⟨k - 1,by omega⟩
    obtain ⟨r,a,b,c⟩:=cut_leaf hI (by omega) hr h3 k i h0 hi
    exact ⟨r,a,b.mono (by simp [Tr.size]),c⟩
  | @fork t0 t1 l0 l1 b0 b1 i0 i1=>
    intro k s H h i hI hr hc hl hk hH h0 hi
    have p0:=b0.pos;have p1:=b1.pos
    rw [List.length_append] at hl hk hi hH
    obtain ⟨k,rfl⟩: ∃j,k=j+1:=⟨k - 1,by omega⟩
    obtain ⟨x,y,_,_,hh,hg,r0,r1, -⟩:=hr.get
    obtain ⟨c0,c1, -⟩:=hI.kids_of hh hg
    have x0:=r0.ne_of b0;have y0:=r1.ne_of b1
    unfold Tb.cutG
    dsimp only
    rw [hg]
    dsimp only
    rw [if_neg (by omega),bLen_T hI r0 b0 (c0 x0) (by omega)]
    by_cases hlow:(l0.length:Int)≤i
    · rw [if_pos hlow,w64 (by omega) (by omega)]
      show∃r,((Tb.cutG k ⟨s.keep x,0⟩ y (i - l0.length)).bind fun r=>r.2.bothG x r.1)=some r∧_
      have g1:=Grow.keep s x
      have j1:=hI.keep (by omega) (c0 x0)
      have c1':=(j1.kids_of (g1.has hh).1 ((g1.has hh).2.trans hg)).2.1 y0
      obtain ⟨r,a,b,c⟩:=i1 (k:=k) (i:=i - l0.length) j1 (r1.grow g1) c1' (by omega) (by omega) (by simp;omega) (by omega) (by omega)
      rw [a,Option.bind_some]
      have hlen:=eraseL_length l1 (i - (l0.length:Int)).toNat (by omega)
      obtain ⟨r',a',b',c'⟩:=bothL_T (t:=r.2) (x:=x) (y:=r.1) (H:=H) (l0:=l0) (l1:=l1.eraseIdx (i - l0.length).toNat) b.inv.swap (by omega) (by rw [List.length_append];omega) ((r0.grow g1).grow b.grow) b0 c
      refine ⟨r',a',(b.keepL.trans b').mono (by simp only [Tr.size];omega),fun e=> ?_⟩
      rw [List.eraseIdx_append_of_length_le (by omega),show i.toNat - l0.length=(i - (l0.length:Int)).toNat by omega]
      obtain ⟨t',z1,z2⟩:=c' e
      exact ⟨t',z1, .inr (.inr z2)⟩
    · rw [if_neg hlow]
      obtain ⟨r,a,b,c⟩:=i0 (k:=k) hI r0 (c0 x0) (by omega) (by omega) (by omega) h0 (by omega)
      rw [a,Option.bind_some]
      have hlen:=eraseL_length l0 i.toNat (by omega)
      have hk1:=b.inv.kids_of (b.grow.has hh).1 ((b.grow.has hh).2.trans hg)
      have b1':=b.keepR (x:=y) (by omega) hk1.2.1
      obtain ⟨r',a',b',c'⟩:=bothR_T (t:=r.2.keep y) (x:=r.1) (y:=y) (H:=H) (l0:=l0.eraseIdx i.toNat) (l1:=l1) b1'.inv (by omega) (by rw [List.length_append];omega) ((r1.grow b.grow).grow (Grow.keep _ _)) b1 (fun e=>by
        obtain ⟨t',z1,z2⟩:=c e
        exact ⟨t',z1.grow (Grow.keep _ _),z2⟩)
      refine ⟨r',a',(b1'.trans b').mono (by simp only [Tr.size];omega),fun e=> ?_⟩
      rw [List.eraseIdx_append_of_lt_length (by omega)]
      obtain ⟨t',z1,z2⟩:=c' e
      exact ⟨t',z1, .inr (.inr z2)⟩
theorem bDelG_R {s : Ar} {H : List Int} (hI : Inv s H) (hH : H.length ≤ 900000) {h : Int} {l : List Bool} (hb : BR s h l) (i : Int) (h0 : 0 ≤ i) (hi : i < l.length) :
    ∃r,bDelG s h i=some r∧Rs s r H (l.length+3) fun t=>BitsR t (l.eraseIdx i.toNat):=by
  have hs:=hb.short
  unfold bDelG
  rw [hb.len hI,if_neg (by omega)]
  obtain ⟨t,hr,hR⟩:=hb.ex
  rcases hR with ⟨rfl,rfl⟩|⟨hR,hsz⟩|hR
  · simp at hi;omega
  · cases hR with
    | leaf h1 h2 h3=>
      obtain ⟨r,a,b,c⟩:=cut_leaf hI (by omega) hr h3 9999 i h0 hi
      rw [show rounds=9999+1 from rfl,a]
      exact ⟨_,rfl,(told_rs b c).mono (by omega)⟩
    | fork h1 h2=>
      have:=h1.nd;simp [Tr.size] at hsz;have:=h2.nd;omega
  · obtain ⟨r,a,b,c⟩:=cut_T hR (k:=rounds) hI hr (hb.live (hr.ne_of hR)) (by omega) (by unfold rounds;omega) (by omega) h0 hi
    rw [a]
    have:=hR.size
    exact ⟨_,rfl,(told_rs b c).mono (by omega)⟩
end
section
open Go.RowKit
theorem era_parts {α:Type} {l:List α} {i:Nat} {y:α} (hy:l[i]? =some y):l=l.take i++y::l.drop (i+1)∧l.eraseIdx i=l.take i++l.drop (i+1):=by
  obtain ⟨h1,h2⟩:=List.getElem?_eq_some_iff.1 hy
  refine ⟨?_,List.eraseIdx_eq_take_drop_succ l i⟩
  have:=List.take_append_drop i l
  rw [List.drop_eq_getElem_cons h1,h2] at this
  exact this.symm
theorem era_map {α β:Type} (f:α→β) (l:List α) (i:Nat):(l.eraseIdx i).map f=(l.map f).eraseIdx i:=by
  rw [List.eraseIdx_eq_take_drop_succ,List.eraseIdx_eq_take_drop_succ,List.map_append,List.map_take,List.map_drop]
theorem era_filter_in {α:Type} (p:α→Bool) {l:List α} {i:Nat} {y:α} (hy:l[i]? =some y) (hp:p y=true):(l.eraseIdx i).filter p=(l.filter p).eraseIdx ((l.take i).filter p).length:=by
  obtain ⟨h1,h2⟩:=era_parts hy
  have h3:l.filter p=(l.take i).filter p++y::(l.drop (i+1)).filter p:=by
    conv=>lhs;rw [h1]
    rw [List.filter_append,List.filter_cons_of_pos hp]
  rw [h2,h3,List.filter_append,List.eraseIdx_append_of_length_le (Nat.le_refl _),Nat.sub_self];rfl
theorem era_filter_out {α:Type} (p:α→Bool) {l:List α} {i:Nat} {y:α} (hy:l[i]? =some y) (hp:p y=false):(l.eraseIdx i).filter p=l.filter p:=by
  obtain ⟨h1,h2⟩:=era_parts hy
  have h3:l.filter p=(l.take i).filter p++(l.drop (i+1)).filter p:=by
    conv=>lhs;rw [h1]
    rw [List.filter_append,List.filter_cons_of_neg (by rw [hp];decide)]
  rw [h2,h3,List.filter_append]
theorem era_len {α:Type} (l:List α) (i:Nat) (h:i<l.length):(l.eraseIdx i).length=l.length - 1:=by
  rw [List.length_eraseIdx];simp [h]
theorem wCutG_T : ∀ {d : Nat} {s : Ar} {H : List Int} {h : Int} {l : List Int} {i : Int}, Inv s H → H.length + d ≤ 800000 → WR s d h l → d ≤ 9 → 0 ≤ i → i < l.length →
    ∃r,wCutG d s h i=some r∧Rs s r H (d*(l.length+4)) fun t=>WaveT d t (l.eraseIdx i.toNat)
  | 0,s,H,h,l,i,hI,hH,hw,hd,h0,hi=>⟨_,rfl,hI.zero_cons (by omega),Grow.refl s,Nat.le_add_right _ _, .inl ⟨rfl, .nil, .nil, .none⟩⟩
  | d+1,s,H,h,l,i,hI,hH,hw,hd,h0,hi=>by
    obtain ⟨hb,hk⟩:=hw.kids hI
    have hhas:h≠0→s.has h=true:=by obtain ⟨t,hr, -⟩:=hw.ex;exact hr.has
    have hs:=hw.short
    obtain ⟨x,hy⟩: ∃y,l[i.toNat]? =some y:=⟨_,List.getElem?_eq_getElem (by omega)⟩
    have hFl:=F_le d (bitD d x) l
    have hat:(F d (bitD d x) l)[(F d (bitD d x) (l.take i.toNat)).length]? =some x:=filter_at _ l i.toNat x hy (by simp)
    obtain ⟨hFi, -⟩:=List.getElem?_eq_some_iff.1 hat
    have hgb:(l.map (bitD d)).getD i.toNat false=bitD d x:=by rw [List.getD_eq_getElem?_getD,List.getElem?_map,hy];rfl
    unfold wCutG
    rw [hb.get hI,if_neg (by rw [List.length_map];omega),Option.bind_some,hgb]
    dsimp only
    rw [alike_F hI hb i _ h0 (by omega),Option.bind_some]
    obtain ⟨u,hu,hU⟩:=wCutG_T (d:=d) (h:=(s.get h).kid (bitD d x)) (i:=(((F d (bitD d x) (l.take i.toNat)).length:Nat):Int)) hI (by omega) (hk _) (by omega) (by omega) (by omega)
    rw [hu,Option.bind_some]
    have hc1:d*((F d (bitD d x) l).length+4)≤d*(l.length+4):=Nat.mul_le_mul_left d (by omega)
    have hc2:(d+1)*(l.length+4)=d*(l.length+4)+(l.length+4):=by rw [Nat.add_mul,Nat.one_mul]
    rw [hc2]
    generalize (d+1)*(l.length+4)=C2 at hc2
    generalize d*(l.length+4)=C1 at hc1 hc2⊢
    rcases hU.res with ⟨u0,t',hr',ht'⟩|⟨u0,u1,u2⟩
    · rw [if_pos u0]
      rw [Int.toNat_natCast] at ht'
      have ho: ∀{s':Ar} {H':List Int},Inv s' H'→Grow s s'→(s.get h).kid (!bitD d x)≠0→s'.cnt ((s.get h).kid (!bitD d x))≠0:=fun hI' hg'=>node_live hI' hg' hhas (by
        unfold Nd.kid;cases bitD d x
        · exact kid_mem.2.2.1
        · exact kid_mem.2.1)
      have j1:=hU.inv.keep' (k:=(s.get h).kid (!bitD d x)) (by simp;omega) (ho hU.inv hU.grow)
      have g1:=hU.grow.trans (Grow.keep u.2.2 ((s.get h).kid (!bitD d x)))
      have hb':=hb.grow g1 (node_live j1 g1 hhas kid_mem.1)
      obtain ⟨r,hr,hR⟩:=bDelG_R j1 (by simp;omega) hb' i h0 (by simpa using hi)
      rw [hr,Option.bind_some]
      have hlen:=era_len l i.toNat (by omega)
      have hRc:=hR.cost
      rw [List.length_map,busyN_keep] at hRc
      have hUc:=hU.cost
      obtain ⟨tq,ho1,ho2⟩:=(hk (!bitD d x)).ex
      have eqn:(⟨3,r.1,if bitD d x=true then (s.get h).k1 else u.1,if bitD d x=true then u.1 else (s.get h).k2,0,0,0⟩:Nd)=⟨3,r.1,if bitD d x=true then (s.get h).kid (!bitD d x) else u.1,if bitD d x=true then u.1 else (s.get h).kid (!bitD d x),0,0,0⟩:=by
        cases bitD d x<;>rfl
      rw [eqn]
      have hperm:Inv r.2.2 ((⟨3,r.1,if bitD d x=true then (s.get h).kid (!bitD d x) else u.1,if bitD d x=true then u.1 else (s.get h).kid (!bitD d x),0,0,0⟩:Nd).kids++H):=by
        have h0:=hR.inv.zero_cons (by simp;omega)
        refine h0.perm ?_
        cases bitD d x
        · exact (List.Perm.swap _ _ _).trans (List.Perm.cons _ ((List.Perm.swap _ _ _).trans (((List.Perm.swap _ _ _).trans (List.Perm.cons _ (List.Perm.swap _ _ _)))|>.trans (List.Perm.swap _ _ _)|>.trans (List.Perm.cons _ (List.Perm.swap _ _ _)))))
        · exact (List.Perm.swap _ _ _).trans (List.Perm.cons _ ((List.Perm.swap _ _ _).trans (List.Perm.cons _ (List.Perm.swap _ _ _))))
      rcases hR.res with ⟨r0,tb,hrb,htb⟩|⟨r0,r1,r2⟩
      · rw [r0]
        rw [←era_map] at htb
        by_cases hrne:r.1=0
        ·
          have hnil:l.eraseIdx i.toNat=[]:=by
            by_cases e:l.eraseIdx i.toNat=[]
            · exact e
            · exact absurd hrne (htb.ne (by intro e';exact e (List.map_eq_nil_iff.1 e')) hrb)
          have hmade: ∀k1 k2:Int,wMade r.2.2 ⟨3,r.1,k1,k2,0,0,0⟩ 0=(0,0,r.2.2.dropAll (⟨3,r.1,k1,k2,0,0,0⟩:Nd).kids):=fun k1 k2=>by
            unfold wMade
            rw [if_neg (fun h=>h.2 hrne)]
          rw [hmade]
          refine ⟨_,rfl,(Inv.dropAll hperm).zero_cons (by omega),(g1.trans hR.grow).trans (Grow.dropAll _ _),by show (r.2.2.dropAll _).busyN≤_;rw [busyN_dropAll];omega, .inl ⟨rfl, .nil, .nil,?_⟩⟩
          rw [hnil];exact .nil
        · have hm := made_rs (P := fun t => WaveT (d + 1) t (l.eraseIdx i.toNat)) hperm (by omega) hrne ⟨by dsimp only; omega, by dsimp only; omega⟩ U64.zero (fun s' h' g' a b => by
            have gu:Grow u.2.2 s':=((Grow.keep _ _).trans hR.grow).trans g'
            have go:Grow s s':=(g1.trans hR.grow).trans g'
            have hne:l.eraseIdx i.toNat≠[]:=by
              intro e
              rw [e] at htb
              rcases htb.cases with ⟨rfl, -⟩|htb
              · exact hrne hrb.zero
              · exact htb.ne rfl
            have hin:F d (bitD d x) (l.eraseIdx i.toNat)=(F d (bitD d x) l).eraseIdx (F d (bitD d x) (l.take i.toNat)).length:=era_filter_in _ hy (by simp)
            have hout:F d (!bitD d x) (l.eraseIdx i.toNat)=F d (!bitD d x) l:=era_filter_out _ hy (by simp)
            rw [←hin] at ht'
            rw [←hout] at ho2
            cases hbx:bitD d x with
            | false=>
              rw [hbx] at b ht' ho2 ho1
              exact ⟨_, .nd a b (hrb.grow g') (hr'.grow gu) (ho1.grow go) .nil, .node hne htb ht' ho2⟩
            | true=>
              rw [hbx] at b ht' ho2 ho1
              exact ⟨_, .nd a b (hrb.grow g') (ho1.grow go) (hr'.grow gu) .nil, .node hne htb ho2 ht'⟩)
          have hmc:=hm.cost
          refine ⟨_,rfl,hm.inv,(g1.trans hR.grow).trans hm.grow,by omega,hm.res.imp id fun q=>⟨q.1,q.2.1,?_⟩⟩
          have:=q.2.2
          have:=hU.grow.size
          have:=hR.grow.size
          have:=Ar.keep_size u.2.2 ((s.get h).kid (!bitD d x))
          omega
      · rw [wMade_bad (show r.2.1≠0 by omega)]
        refine ⟨_,rfl,(Inv.dropAll hperm).zero_cons (by omega),(g1.trans hR.grow).trans (Grow.dropAll _ _),by show (r.2.2.dropAll _).busyN≤_;rw [busyN_dropAll];omega, .inr ⟨r0,rfl,?_⟩⟩
        have:=hU.grow.size
        rw [Ar.keep_size,busyN_keep,List.length_map] at r2
        omega
    · rw [if_neg (by omega)]
      refine ⟨_,rfl,?_,hU.grow,by have:=hU.cost;show u.2.2.busyN≤_;omega, .inr ⟨u0,rfl,by omega⟩⟩
      have:=hU.inv
      rw [u1] at this;exact this
theorem wDelG_R {s : Ar} {H : List Int} (hI : Inv s H) (hH : H.length ≤ 700000) {h : Int} {l : List Int} (hw : WR s 9 h l) (i : Int) (h0 : 0 ≤ i) (hi : i < l.length) :
    ∃r,wDelG s h i=some r∧Rs s r H (9*(l.length+4)) fun t=>WaveT 9 t (l.eraseIdx i.toNat):=by
  unfold wDelG
  rw [hw.len hI,if_neg (by omega)]
  exact wCutG_T hI (by omega) hw (by omega) h0 hi
end
section
open Go.RowKit
theorem placeIn_at: ∀(l:List (Int×Int)) (i:Int) {k:Nat} {x:Int×Int},(l.map (·.1)).Nodup→l[k]? =some x→placeIn x.1 l i=(i+k,true)
  | [],_,k,x,_,h=>by simp at h
  | y::l,i,0,x,hn,h=>by
    simp at h;subst h
    unfold placeIn;rw [if_pos rfl];simp
  | y::l,i,k+1,x,hn,h=>by
    rw [List.map_cons,List.nodup_cons] at hn
    rw [List.getElem?_cons_succ] at h
    have hne: ¬y.1=x.1:=fun e=>hn.1 (by
      rw [e]
      obtain ⟨h1,h2⟩:=List.getElem?_eq_some_iff.1 h
      exact List.mem_map.2 ⟨x,h2▸List.getElem_mem h1,rfl⟩)
    unfold placeIn
    rw [if_neg hne,placeIn_at l (i+1) hn.2 h]
    congr 1;omega
theorem tCut_R {s : Ar} {H : List Int} (hI : Inv s H) (hH : H.length ≤ 900000) {h : Int} {l : List (Int × Int)} (hb : LR s h l) (hn : (l.map (·.1)).Nodup) {k : Nat} {x : Int × Int} (hx : l[k]? = some x) :
    ∃r,tCut s h x.1=some r∧Rs s r H (3*l.length) fun t=>ListR t (l.eraseIdx k):=by
  obtain ⟨h1, -⟩:=List.getElem?_eq_some_iff.1 hx
  unfold tCut tPlace
  rw [hb.all hI,Option.map_some,Option.bind_some,placeIn_at l 0 hn hx,if_pos rfl]
  have h2:=lDelete_R hI hH hb (0+(k:Int)) (by omega) (by omega)
  rw [show (0+(k:Int)).toNat=k by omega] at h2
  exact h2
end
section
open Go.RowKit
def notOf (id:Int) (x:Int×Int×Int):Bool:= !decide (x.1=id)
def cutX (id:Int) (m:Nat) (X:List (Int×Int×Int)):List (Int×Int×Int):=X.take m++(X.drop m).filter (notOf id)
def posX (id:Int) (m:Nat) (X:List (Int×Int×Int)):List Nat:=(List.range m).filter fun i=>decide ((X.getD i (0,0,0)).1=id)
theorem cutX_succ {id:Int} {m:Nat} {X:List (Int×Int×Int)} {y:Int×Int×Int} (hy:X[m]? =some y) (hn:y.1≠id):cutX id (m+1) X=cutX id m X:=by
  obtain ⟨h1,h2⟩:=List.getElem?_eq_some_iff.1 hy
  unfold cutX
  rw [List.drop_eq_getElem_cons h1,h2,List.filter_cons_of_pos (by simp [notOf,hn]),List.take_add_one,hy]
  simp
theorem cutX_at {id:Int} {m:Nat} {X:List (Int×Int×Int)} {y:Int×Int×Int} (hy:X[m]? =some y) (hn:y.1=id):(cutX id (m+1) X)[m]? =some y∧(cutX id (m+1) X).eraseIdx m=cutX id m X∧(cutX id (m+1) X).take m=X.take m:=by
  obtain ⟨h1,h2⟩:=List.getElem?_eq_some_iff.1 hy
  have hl:(X.take m).length=m:=by rw [List.length_take];omega
  have e1:cutX id (m+1) X=X.take m++y::(X.drop (m+1)).filter (notOf id):=by
    unfold cutX
    rw [List.take_add_one,hy];simp
  refine ⟨?_,?_,?_⟩
  · rw [e1,List.getElem?_append_right (by omega),hl,Nat.sub_self];rfl
  · rw [e1,List.eraseIdx_append_of_length_le (by omega),hl,Nat.sub_self]
    unfold cutX
    rw [List.drop_eq_getElem_cons h1,h2,List.filter_cons_of_neg (by simp [notOf,hn])];rfl
  · rw [e1,List.take_append_of_le_length (by omega),List.take_take,Nat.min_self]
theorem cutX_zero (id:Int) (X:List (Int×Int×Int)):cutX id 0 X=X.filter (notOf id):=by unfold cutX;simp
theorem cutX_all (id:Int) (X:List (Int×Int×Int)):cutX id X.length X=X:=by unfold cutX;simp
theorem posX_succ {id:Int} {m:Nat} {X:List (Int×Int×Int)} {y:Int×Int×Int} (hy:X[m]? =some y):posX id (m+1) X=posX id m X++(if y.1=id then [m] else []):=by
  unfold posX
  rw [List.range_succ,List.filter_append]
  have:X.getD m (0,0,0)=y:=by rw [List.getD_eq_getElem?_getD,hy];rfl
  rw [List.filter_cons,this]
  by_cases h:y.1=id<;>simp [h]
theorem posX_last (id : Int) (X : List (Int × Int × Int)) : ∀ m, m ≤ X.length → posX id m X = [] ∧ cutX id m X = cutX id 0 X ∨
    ∃r y,X[r]? =some y∧y.1=id∧r<m∧posX id m X=posX id r X++[r]∧cutX id m X=cutX id (r+1) X
  | 0,_=> .inl ⟨rfl,rfl⟩
  | m+1,h=>by
    obtain ⟨y,hy⟩: ∃y,X[m]? =some y:=⟨_,List.getElem?_eq_getElem (by omega)⟩
    have hp:=posX_succ (id:=id) hy
    by_cases e:y.1=id
    · rw [if_pos e] at hp
      exact .inr ⟨m,y,hy,e,by omega,hp,rfl⟩
    · rw [if_neg e,List.append_nil] at hp
      rw [hp,cutX_succ hy e]
      rcases posX_last id X m (by omega) with h|⟨r,z,a,b,c,d,f⟩
      · exact .inl h
      · exact .inr ⟨r,z,a,b,by omega,d,f⟩
theorem rowW_era (X:List (Int×Int×Int)) (i:Nat):rowW (X.eraseIdx i)=(rowW X).eraseIdx i:=era_map _ _ _
theorem rowM_era (rate:Int) (X:List (Int×Int×Int)) (i:Nat):rowM rate (X.eraseIdx i)=(rowM rate X).eraseIdx i:=era_map _ _ _
theorem rowS_in {rate:Int} {X:List (Int×Int×Int)} {i:Nat} {y:Int×Int×Int} (hy:X[i]? =some y) (hm:mkd rate y=true):rowS rate (X.eraseIdx i)=(rowS rate X).eraseIdx ((X.take i).filter (mkd rate)).length:=by
  unfold rowS
  rw [era_filter_in _ hy hm,era_map]
theorem rowS_out {rate:Int} {X:List (Int×Int×Int)} {i:Nat} {y:Int×Int×Int} (hy:X[i]? =some y) (hm:mkd rate y=false):rowS rate (X.eraseIdx i)=rowS rate X:=by
  unfold rowS
  rw [era_filter_out _ hy hm]
theorem rowM_rank (rate:Int) (X:List (Int×Int×Int)) (i:Nat):((rowM rate X).take i).count true=((X.take i).filter (mkd rate)).length:=by
  unfold rowM
  rw [←List.map_take,List.count,List.countP_map,List.countP_eq_length_filter]
  congr 1
  exact List.filter_congr fun x _=>by simp
end
section
open Go.RowKit
variable {s : Ar} {H : List Int} {h : Int} {ds : Docs} {rate : Int}
def rowAt (ds:Docs) (d a:Nat):Nat:=below (txt ds) (d,a) (all (txt ds))
theorem row_place {i:Nat} {r:Nat×Nat} (hR:Right ds) (hi:(refSorted (txt ds))[i]? =some r):rowAt ds r.1 r.2=i:=by
  rw [right_all hR] at hi
  exact srt_idx (all_srt _) hi
theorem row_there {d a:Nat} {t:List UInt8} (hR:Right ds) (ht:(txt ds)[d]? =some t) (ha:a≤t.length):(refSorted (txt ds))[rowAt ds d a]? =some (d,a):=by
  rw [right_all hR]
  exact srt_at (all_srt _) (all_mem ht ha)
theorem row_lt {d a:Nat} {t:List UInt8} (hR:Right ds) (ht:(txt ds)[d]? =some t) (ha:a≤t.length):rowAt ds d a<(refSorted (txt ds)).length:=
  (List.getElem?_eq_some_iff.1 (row_there hR ht ha)).1
theorem vnext_step (hI:Inv s H) (hv:VR s h ds rate) (hR:Right ds) {d a:Nat} {t:List UInt8} (ht:(txt ds)[d]? =some t) (ha:a<t.length):vNext s h ((rowAt ds d (a+1):Nat):Int)=some (((rowAt ds d a:Nat):Int),true):=by
  rw [hv.next hI (by have:=hR.len;omega)]
  exact congrArg some (next_at hR ht ha)
theorem vnext_stop (hI:Inv s H) (hv:VR s h ds rate) (hR:Right ds) {d:Nat} {t:List UInt8} (ht:(txt ds)[d]? =some t):vNext s h ((rowAt ds d 0:Nat):Int)=some (0,false):=by
  rw [hv.next hI (by have:=hR.len;omega)]
  exact congrArg some (next_end hR ht)
end
section
open Go.RowKit
variable {s : Ar} {H : List Int} {h : Int} {ds : Docs} {rate : Int}
end
section
open Go.RowKit
variable {s : Ar} {H : List Int} {h : Int} {ds m : Docs} {rate other : Int}
def alikeD (rate other:Int) (ds m:Docs):Bool:=
  refRight (txt m)&&(docsM ds==docsM m&&(symsM (txt ds)==symsM (txt m)&&(marksM rate (txt ds)==marksM other (txt m)&&spotsM rate ds==spotsM other m)))
theorem VR.check (hI:Inv s H) (hv:VR s h ds rate) (hR:Right ds) (m:Docs) (other:Int):vCheck s h other m=some (decide (1≤other∧other≤16)&&alikeD rate other ds m):=by
  have hl:=hR.len
  obtain ⟨pw,pm,ps,pt,hi⟩:=hv.parts hI (by omega)
  have hn:=rowsM_small ds
  have hs:=rowS_length rate (rowsM ds)
  unfold vCheck alikeD
  by_cases hr:1≤other∧other≤16
  case neg=>rw [if_neg (fun q=>hr q.2),decide_eq_false hr];rfl
  rw [if_pos ⟨hi,hr⟩,decide_eq_true hr,Bool.true_and]
  by_cases hm:refRight (txt m)=true
  case neg=>rw [if_neg hm,Bool.eq_false_iff.2 hm];rfl
  rw [if_pos hm,hm,Bool.true_and,pt.all hI,Option.bind_some,if_pos (by simp [docsM];omega)]
  by_cases h1:(docsM ds==docsM m)=true
  case neg=>rw [if_neg h1,Bool.eq_false_iff.2 h1];rfl
  rw [if_pos h1,h1,Bool.true_and,pw.all hI,Option.bind_some,if_pos (by simp [rowW];omega),←symsM_eq]
  by_cases h2:(symsM (txt ds)==symsM (txt m))=true
  case neg=>rw [if_neg h2,Bool.eq_false_iff.2 h2];rfl
  rw [if_pos h2,h2,Bool.true_and,pm.all hI,Option.bind_some,if_pos (by simp [rowM];omega),←marksM_eq]
  by_cases h3:(marksM rate (txt ds)==marksM other (txt m))=true
  case neg=>rw [if_neg h3,Bool.eq_false_iff.2 h3];rfl
  rw [if_pos h3,h3,Bool.true_and,ps.all hI,Option.bind_some,if_pos (by omega),←spotsM_eq]
theorem alikeD_self (hR:refRight (txt ds)=true):alikeD rate rate ds ds=true:=by unfold alikeD;simp [hR]
theorem VR.check_own (hI:Inv s H) (hv:VR s h ds rate) (hR:Right ds) (h1:1≤rate) (h2:rate≤16):vCheck s h rate ds=some true:=by
  rw [hv.check hI hR,alikeD_self hR.right,decide_eq_true ⟨h1,h2⟩];rfl
def sameMarks (rate other:Int) (ds:Docs):Bool:=ds.all fun d=>(List.range (d.2.length+1)).all fun a=>decide ((a:Int) % rate=0)==decide ((a:Int) % other=0)
end
section
open Go.RowKit
def shD (k i:Nat):Nat:=if i<k then i else i+1
def upD (k:Nat) (r:Nat×Nat):Nat×Nat:=(shD k r.1,r.2)
theorem shD_lt {k i j:Nat}:(shD k i<shD k j)↔i<j:=by unfold shD;split<;>split<;>omega
theorem shD_ne {k i:Nat}:shD k i≠k:=by unfold shD;split<;>omega
theorem shD_get {α:Type} (l:List α) (k i:Nat):(l.eraseIdx k)[i]? =l[shD k i]? :=by
  rw [List.getElem?_eraseIdx]
  unfold shD
  split<;>rfl
theorem shD_getD {α:Type} (l:List α) (k i:Nat) (d:α):(l.eraseIdx k).getD i d=l.getD (shD k i) d:=by
  rw [List.getD_eq_getElem?_getD,List.getD_eq_getElem?_getD,shD_get]
theorem rl_up (ts:List (List UInt8)) (k:Nat) (x y:Nat×Nat):refLess (ts.eraseIdx k) x y=refLess ts (upD k x) (upD k y):=by
  unfold refLess upD
  dsimp only
  rw [shD_getD,shD_getD]
  congr 1
  exact decide_eq_decide.2 shD_lt.symm
theorem srt_nodup {ts:List (List UInt8)} {L:List (Nat×Nat)} (h:Srt ts L):L.Nodup:=
  List.Pairwise.imp (fun {a b} h e=>by rw [e,rl_irr] at h;cases h) h
theorem all_era (ts:List (List UInt8)) (k:Nat):(all (ts.eraseIdx k)).map (upD k)=(all ts).filter fun r=> !decide (r.1=k):=by
  have hs1:Srt ts ((all (ts.eraseIdx k)).map (upD k)):=by
    refine List.pairwise_map.2 ((all_srt (ts.eraseIdx k)).imp fun {a b} h=> ?_)
    rw [←rl_up];exact h
  have hs2:Srt ts ((all ts).filter fun r=> !decide (r.1=k)):=(all_srt ts).filter _
  refine srt_unique hs1 hs2 ((List.perm_ext_iff_of_nodup (srt_nodup hs1) (srt_nodup hs2)).2 fun x=> ?_)
  rw [List.mem_map,List.mem_filter]
  constructor
  · rintro ⟨r,hr,rfl⟩
    obtain ⟨t,ht,hl⟩:=all_in hr
    rw [shD_get] at ht
    exact ⟨all_mem (d:=shD k r.1) ht hl,by simp [upD,shD_ne]⟩
  · rintro ⟨hx,hn⟩
    have hn':x.1≠k:=by simpa using hn
    obtain ⟨t,ht,hl⟩:=all_in hx
    have hsh:shD k (if x.1<k then x.1 else x.1 - 1)=x.1:=by
      by_cases c:x.1<k
      · rw [if_pos c];unfold shD;rw [if_pos c]
      · rw [if_neg c];unfold shD;rw [if_neg (by omega)];omega
    refine ⟨(if x.1<k then x.1 else x.1 - 1,x.2),all_mem (t:=t) (by rw [shD_get,hsh];exact ht) hl,?_⟩
    unfold upD
    dsimp only
    rw [hsh]
theorem nodup_at {α:Type} {f:α→Int} {l:List α} (h:(l.map f).Nodup) {i j:Nat} {x y:α} (hx:l[i]? =some x) (hy:l[j]? =some y) (e:f x=f y):i=j:=by
  obtain ⟨a1,a2⟩:=List.getElem?_eq_some_iff.1 hx
  obtain ⟨b1,b2⟩:=List.getElem?_eq_some_iff.1 hy
  have hp:=List.pairwise_iff_getElem.1 h
  rcases Nat.lt_trichotomy i j with c|c|c
  · exact absurd (show (l.map f)[i]'(by simpa using a1)=(l.map f)[j]'(by simpa using b1) by rw [List.getElem_map,List.getElem_map,a2,b2,e]) (hp i j (by simpa using a1) (by simpa using b1) c)
  · exact c
  · exact absurd (show (l.map f)[j]'(by simpa using b1)=(l.map f)[i]'(by simpa using a1) by rw [List.getElem_map,List.getElem_map,a2,b2,e]) (hp j i (by simpa using b1) (by simpa using a1) c)
theorem right_era {ts:List (List UInt8)} (h:refRight ts=true) (k:Nat):refRight (ts.eraseIdx k)=true:=by
  unfold refRight at h⊢
  rw [Bool.and_eq_true,decide_eq_true_eq,List.all_eq_true] at h⊢
  have:=(List.eraseIdx_sublist ts k).length_le
  exact ⟨fun x hx=>h.1 x ((List.eraseIdx_sublist ts k).subset hx),by omega⟩
theorem rowsM_era {ds:Docs} (hR:Right ds) {k:Nat} {d:Int×List UInt8} (hk:ds[k]? =some d):(rowsM ds).filter (notOf d.1)=rowsM (ds.eraseIdx k):=by
  have hr2:refRight (txt (ds.eraseIdx k))=true:=by
    unfold txt;rw [era_map];exact right_era hR.right k
  have e1:refSorted (ds.map (·.2))=all (txt ds):=if_pos hR.right
  have e2:refSorted ((ds.eraseIdx k).map (·.2))=all ((txt ds).eraseIdx k):=(if_pos hr2).trans (by unfold all txt;rw [era_map])
  unfold rowsM
  rw [e1,e2,List.filter_map]
  have h3:(all (txt ds)).filter ((notOf d.1)∘fun r=>((ds.getD r.1 (0,[])).1,(r.2:Int),symOf (ds.map (·.2)) r))=(all (txt ds)).filter fun r=> !decide (r.1=k):=by
    refine List.filter_congr fun r hr=> ?_
    obtain ⟨t,ht, -⟩:=all_in hr
    rw [List.getElem?_map] at ht
    obtain ⟨e,he, -⟩:=Option.map_eq_some_iff.1 ht
    show notOf d.1 ((ds.getD r.1 (0,[])).1,_,_)=_
    have hg:ds.getD r.1 (0,[])=e:=by rw [List.getD_eq_getElem?_getD,he];rfl
    unfold notOf
    dsimp only
    rw [hg]
    congr 1
    refine decide_eq_decide.2 ⟨fun q=> ?_,fun q=> ?_⟩
    · exact nodup_at hR.nodup he hk q
    · rw [q] at he
      have:=Option.some.inj (he.symm.trans hk)
      rw [this]
  rw [h3,←all_era,List.map_map]
  refine List.map_congr_left fun r hr=> ?_
  have hm:(ds.eraseIdx k).map (·.2)=(ds.map (·.2)).eraseIdx k:=era_map _ _ _
  show ((ds.getD (shD k r.1) (0,[])).1,(r.2:Int),symOf (ds.map (·.2)) (upD k r))=_
  rw [hm]
  unfold symOf upD
  dsimp only
  rw [shD_getD,shD_getD]
end
section
open Go.RowKit
def inP (D a:Nat) (r:Nat×Nat):Bool:=decide (r.1<D)||(r.1==D&&decide (a≤r.2))
def part (ts:List (List UInt8)) (D a:Nat):List (Nat×Nat):=(all ts).filter (inP D a)
section
variable {ts : List (List UInt8)} {D : Nat} {t : List UInt8}
end
end
section
open Go.RowKit
def rowX (ds:Docs) (r:Nat×Nat):Int×Int×Int:=((ds.getD r.1 (0,[])).1,(r.2:Int),symOf (txt ds) r)
def partX (ds:Docs) (d:Int×List UInt8) (a:Nat):List (Int×Int×Int):=(part (txt (ds++[d])) ds.length a).map (rowX (ds++[d]))
section
variable {ds : Docs} {d : Int × List UInt8} {rate : Int}
def rowI (ds:Docs) (d:Int×List UInt8) (a:Nat):Nat:=below (txt (ds++[d])) (ds.length,a) (part (txt (ds++[d])) ds.length (a+1))
def newX (ds:Docs) (d:Int×List UInt8) (a:Nat):Int×Int×Int:=(d.1,(a:Int),symOf (txt (ds++[d])) (ds.length,a))
end
theorem put_at (p:Parts): ∀i,p.put i (p.at i)=p
  | 0=>rfl
  | 1=>rfl
  | 2=>rfl
  | _+3=>rfl
theorem swap_T {s : Ar} {H1 H2 : List Int} {h : Int} {r : Int × Int × Ar} {c : Nat} {P : Tr → Prop} (hr : Rs s r (H1 ++ h :: H2) c P) :
    Inv (nextA true h r).2.2 (H1++(nextA true h r).1::H2)∧Grow s (nextA true h r).2.2∧(nextA true h r).2.2.busyN≤s.busyN+c∧
    ((r.2.1=0∧ ∃t',Rep (nextA true h r).2.2 (nextA true h r).1 t'∧P t')∨(r.2.1=2∧(nextA true h r).1=h∧s.size<s.busyN+c)):=by
  obtain ⟨i1,g1,c1,q1⟩:=nextA_T true hr
  refine ⟨i1,g1,c1,?_⟩
  rcases hr.res with ⟨z, -⟩|⟨z, -,z2⟩
  · rcases q1 with ⟨-,q⟩|⟨q, -⟩
    · exact .inl ⟨z,q⟩
    · unfold nextA at q;rw [if_pos z] at q;cases q
  · rcases q1 with ⟨q, -⟩|⟨-,q, -⟩
    · unfold nextA at q;rw [if_neg (by omega)] at q;cases q
    · exact .inr ⟨z,q,z2⟩
structure Pv (x:Pt) (H:List Int) (ds:Docs) (d:Int×List UInt8) (rate:Int) (a:Nat):Prop where
  inv:Inv x.s (x.p.wave::x.p.marks::x.p.spots::x.p.table::H)
  w:HasW x.s x.p.wave (rowW (partX ds d a))
  m:HasB x.s x.p.marks (rowM rate (partX ds d a))
  sp:HasL x.s x.p.spots (rowS rate (partX ds d a))
  t:HasL x.s x.p.table (docsM (ds++[d]))
  id:x.id=d.1
  text:x.text=d.2
  rt:x.rate=rate
  begun:x.begun=true
  over:x.over=false
  root:x.root=0
  pos:x.pos=(a:Int) - 1
  row:1≤a→x.row=(rowI ds d (a - 1):Nat)
structure Pe (x0 x:Pt) (H:List Int):Prop where
  inv:Inv x.s (x.p.wave::x.p.marks::x.p.spots::x.p.table::H)
  src:x.src=x0.src
  over:x.over=false
  root:x.root=x0.root
def costR (n:Nat):Nat:=13*n+50
end
section
open Go.RowKit
theorem swapC_eq (x:Ct) (i:Nat) (r:Int×Int×Ar):x.swap i r=((if r.2.1=0 then 0 else r.2.1),{x with s:=(nextA true (x.p.at i) r).2.2,p:=x.p.put i (nextA true (x.p.at i) r).1}):=by
  unfold Ct.swap nextA
  by_cases e:r.2.1=0
  · rw [if_pos e,if_pos e,if_pos e]
    dsimp only
    have:(if x.p.at i=0 then r.2.2 else r.2.2.drop (x.p.at i))=r.2.2.drop (x.p.at i):=by
      split
      · rename_i q;rw [q,drop_zero]
      · rfl
    rw [this]
  · rw [if_neg e,if_neg e,if_neg e]
    rw [put_at]
theorem markC_T {y : Ct} {H : List Int} {L : List Bool} (hI : Inv y.s (y.p.wave :: y.p.marks :: y.p.spots :: y.p.table :: H)) (hH : H.length ≤ 1000) (hm : HasB y.s y.p.marks L) (hl : L.length ≤ 500) {i : Nat} (hi : i < L.length) :
    ∃e s' h',y.mark (i:Int)=some (e,{y with s:=s',p:=y.p.put 1 h'})∧Inv s' (y.p.wave::h'::y.p.spots::y.p.table::H)∧Grow y.s s'∧s'.busyN≤y.s.busyN+(L.length+3)∧
      ((e=0∧HasB s' h' (L.eraseIdx i))∨(e=2∧y.s.size<y.s.busyN+(L.length+3))):=by
  have hb:BR y.s y.p.marks L:=⟨hm,fun h0=>hI.pos (by simp) h0,by omega⟩
  obtain ⟨r,e1,R⟩:=bDelG_R hI (by simp;omega) hb (i:Int) (by omega) (by omega)
  rw [Int.toNat_natCast] at R
  obtain ⟨i1,g1,c1,q1⟩:=swap_T (H1:=[y.p.wave]) (H2:=y.p.spots::y.p.table::H) R
  have E:=swapC_eq y 1 r
  unfold Ct.mark
  rw [e1,Option.map_some,E]
  refine ⟨_,_,_,rfl,i1,g1,c1,?_⟩
  rcases q1 with ⟨z,t',p1,p2⟩|⟨z, -,z3⟩
  · exact .inl ⟨by rw [if_pos z],t',p1,p2⟩
  · exact .inr ⟨by rw [if_neg (by omega)];exact z,z3⟩
theorem spotC_T {y : Ct} {H : List Int} {X : List (Int × Int × Int)} {rate : Int} (hI : Inv y.s (y.p.wave :: y.p.marks :: y.p.spots :: y.p.table :: H)) (hH : H.length ≤ 1000) (hm : HasB y.s y.p.marks (rowM rate X)) (hsp : HasL y.s y.p.spots (rowS rate X)) (hl : X.length ≤ 500) {i : Nat} {v : Int × Int × Int} (hv : X[i]? = some v) :
    ∃e s' h1 h2,y.spot (i:Int)=some (e,{y with s:=s',p:=(y.p.put 2 h2).put 1 h1})∧Inv s' (y.p.wave::h1::h2::y.p.table::H)∧Grow y.s s'∧s'.busyN≤y.s.busyN+(4*X.length+3)∧
      ((e=0∧HasB s' h1 (rowM rate (X.eraseIdx i))∧HasL s' h2 (rowS rate (X.eraseIdx i)))∨(e=2∧y.s.size<y.s.busyN+(4*X.length+3))):=by
  have hlm:(rowM rate X).length=X.length:=by simp [rowM]
  have hls:=rowS_length rate X
  obtain ⟨hil, -⟩:=List.getElem?_eq_some_iff.1 hv
  have hb:BR y.s y.p.marks (rowM rate X):=⟨hm,fun h0=>hI.pos (by simp) h0,by omega⟩
  have hg:(rowM rate X).getD i false=mkd rate v:=by rw [List.getD_eq_getElem?_getD];unfold rowM;rw [List.getElem?_map,hv];rfl
  unfold Ct.spot
  rw [hb.get hI,if_neg (by omega),Option.bind_some,Int.toNat_natCast,hg]
  dsimp only
  cases hmk:mkd rate v with
  | false=>
    rw [if_neg (by decide)]
    obtain ⟨e,s',h',a1,a2,a3,a4,a5⟩:=markC_T hI hH hm (by omega) (i:=i) (by omega)
    rw [a1]
    refine ⟨e,s',h',y.p.spots,rfl,a2,a3,by omega,?_⟩
    rcases a5 with ⟨z,b⟩|⟨z,b⟩
    · exact .inl ⟨z,by rw [rowM_era];exact b,by rw [rowS_out hv hmk];exact hsp.grow a3⟩
    · exact .inr ⟨z,by omega⟩
  | true=>
    have hrk:bRank y.s y.p.marks (i:Int)=some ((((X.take i).filter (mkd rate)).length:Nat):Int):=by
      rw [hb.rank hI (i:Int) (by omega) (by omega),Int.toNat_natCast,rowM_rank]
    have hat:((X.filter (mkd rate)))[((X.take i).filter (mkd rate)).length]? =some v:=filter_at _ X i v hv hmk
    have hlt:((X.take i).filter (mkd rate)).length<(rowS rate X).length:=by
      obtain ⟨q, -⟩:=List.getElem?_eq_some_iff.1 hat
      unfold rowS;rw [List.length_map];exact q
    have hlr:LR y.s y.p.spots (rowS rate X):=⟨hsp,fun h0=>hI.pos (by simp) h0,by omega⟩
    rw [if_pos rfl,hrk,Option.bind_some]
    have hin:=rowS_in hv hmk
    generalize ((X.take i).filter (mkd rate)).length=j at*
    obtain ⟨r,e1,R⟩:=lDelete_R hI (by simp;omega) hlr (j:Int) (by omega) (by omega)
    rw [Int.toNat_natCast,←hin] at R
    obtain ⟨i1,g1,c1,q1⟩:=swap_T (H1:=[y.p.wave,y.p.marks]) (H2:=y.p.table::H) R
    have E:=swapC_eq y 2 r
    have hat2:y.p.at 2=y.p.spots:=rfl
    rw [hat2] at E
    rw [e1,Option.bind_some,E]
    generalize nextA true y.p.spots r=n at*
    have hgs:=g1.size
    rcases q1 with ⟨z,t',p1,p2⟩|⟨z,z2,z3⟩
    · rw [if_pos z]
      dsimp only
      rw [if_pos rfl]
      obtain ⟨e,s',h',a1,a2,a3,a4,a5⟩:=markC_T (y:={y with s:=n.2.2,p:=y.p.put 2 n.1}) (H:=H) (L:=rowM rate X) i1 hH (hm.grow g1) (by omega) (i:=i) (by omega)
      rw [a1]
      replace a4:s'.busyN≤n.2.2.busyN+((rowM rate X).length+3):=a4
      refine ⟨e,s',h',n.1,rfl,a2,g1.trans a3,by omega,?_⟩
      rcases a5 with ⟨z,b⟩|⟨z,b⟩
      · exact .inl ⟨z,by rw [rowM_era];exact b,(show HasL n.2.2 n.1 _ from ⟨t',p1,p2⟩).grow a3⟩
      · replace b:n.2.2.size<n.2.2.busyN+((rowM rate X).length+3):=b
        exact .inr ⟨z,by omega⟩
    · rw [if_neg (show¬r.2.1=0 by omega)]
      rw [if_neg (show¬r.2.1=0 by omega)]
      exact ⟨r.2.1,n.2.2,y.p.marks,n.1,rfl,i1,g1,by omega, .inr ⟨z,by omega⟩⟩
structure Cv (x:Ct) (H:List Int) (X:List (Int×Int×Int)) (D:List (Int×Int)) (id rate:Int) (m:Nat):Prop where
  inv:Inv x.s (x.p.wave::x.p.marks::x.p.spots::x.p.table::H)
  w:HasW x.s x.p.wave (rowW (cutX id m X))
  bm:HasB x.s x.p.marks (rowM rate (cutX id m X))
  sp:HasL x.s x.p.spots (rowS rate (cutX id m X))
  t:HasL x.s x.p.table D
  idn:x.id=id
  owns:x.owns=true
  over:x.over=false
  root:x.root=0
  rows:x.rows=(posX id m X).map fun i:Nat=>(i:Int)
structure Ce (x0 x:Ct) (H:List Int):Prop where
  inv:Inv x.s (x.p.wave::x.p.marks::x.p.spots::x.p.table::H)
  src:x.src=x0.src
  owns:x.owns=true
  over:x.over=false
  root:x.root=x0.root
theorem cutX_len (id:Int) (m:Nat) (X:List (Int×Int×Int)):(cutX id m X).length≤X.length:=by
  unfold cutX
  rw [List.length_append,List.length_take]
  have:=List.length_filter_le (notOf id) (X.drop m)
  rw [List.length_drop] at this
  omega
theorem cutX_mem {id:Int} {m:Nat} {X:List (Int×Int×Int)} {x:Int×Int×Int} (h:x∈cutX id m X):x∈X:=by
  unfold cutX at h
  rcases List.mem_append.1 h with h|h
  · exact List.mem_of_mem_take h
  · exact List.mem_of_mem_drop (List.mem_filter.1 h).1
theorem cutX_sy {id:Int} {m:Nat} {X:List (Int×Int×Int)} (h:Sy (rowW X)):Sy (rowW (cutX id m X)):=fun y hy=>by
  unfold rowW at hy h
  obtain ⟨x,hx,rfl⟩:=List.mem_map.1 hy
  exact h _ (List.mem_map.2 ⟨x,cutX_mem hx,rfl⟩)
theorem takeC_T {x : Ct} {H : List Int} {X : List (Int × Int × Int)} {D : List (Int × Int)} {id rate : Int} {m : Nat} (h : Cv x H X D id rate m) (hX : X.length ≤ 500) (hsy : Sy (rowW X)) (hm : m ≤ X.length) (hH : H.length ≤ 1000) (hne : x.rows ≠ []) :
    ∃r,x.take=some r∧Grow x.s r.2.s∧r.2.s.busyN≤x.s.busyN+costR X.length∧
      ((r.1=0∧r.2.src=x.src∧r.2.rows=x.rows.dropLast∧ ∃k,k<m∧Cv r.2 H X D id rate k)∨(r.1=2∧x.s.size<x.s.busyN+costR X.length∧Ce x r.2 H)):=by
  rcases posX_last id X m hm with ⟨hp, -⟩|⟨i,v,hv,hvid,hi,hp,hc⟩
  · exact absurd (by rw [h.rows,hp];rfl) hne
  obtain ⟨hat,hera, -⟩:=cutX_at hv hvid
  have hlen:=cutX_len id (i+1) X
  have hsy2:=cutX_sy (id:=id) (m:=i+1) hsy
  have hhw:=h.w;have hhm:=h.bm;have hhsp:=h.sp;have hht:=h.t;have hinv:=h.inv
  rw [hc] at hhw hhm hhsp
  have hrows:=h.rows
  rw [hp,List.map_append] at hrows
  have hlast:x.last=(i:Int):=by
    unfold Ct.last;rw [hrows]
    show List.getLastD (_++[(i:Int)]) 0=_
    simp
  have hless:x.rows.dropLast=(posX id i X).map fun i:Nat=>(i:Int):=by
    rw [hrows]
    show List.dropLast (_++[(i:Int)])=_
    rw [List.dropLast_concat]
  generalize hL:cutX id (i+1) X=L at*
  have hlw:(rowW L).length=L.length:=by simp [rowW]
  obtain ⟨hil, -⟩:=List.getElem?_eq_some_iff.1 hat
  have hw:WR x.s 9 x.p.wave (rowW L):=⟨hhw,fun h0=>hinv.pos (by simp) h0,by omega,hsy2⟩
  obtain ⟨r1,e1,R1⟩:=wDelG_R hinv (by simp;omega) hw (i:Int) (by omega) (by omega)
  rw [Int.toNat_natCast,←rowW_era,hera] at R1
  obtain ⟨i1,g1,c1,q1⟩:=swap_T (H1:=[]) (H2:=x.p.marks::x.p.spots::x.p.table::H) R1
  have E1:=swapC_eq x.less 0 r1
  have hat0:x.less.p.at 0=x.p.wave:=rfl
  rw [hat0] at E1
  unfold Ct.take
  rw [hlast,e1,Option.bind_some,E1]
  generalize nextA true x.p.wave r1=n1 at*
  have hg1:=g1.size
  rcases q1 with ⟨z,t1,p1,p2⟩|⟨z,a2,a3⟩
  · rw [if_pos z]
    dsimp only
    rw [if_pos rfl]
    obtain ⟨e,s',h1,h2,b1,b2,b3,b4,b5⟩:=spotC_T (y:={x.less with s:=n1.2.2,p:=x.less.p.put 0 n1.1}) (H:=H) (X:=L) (rate:=rate) i1 hH (hhm.grow g1) (hhsp.grow g1) (by omega) (i:=i) hat
    rw [b1]
    replace b4:s'.busyN≤n1.2.2.busyN+(4*L.length+3):=b4
    refine ⟨_,rfl,g1.trans b3,by dsimp only;unfold costR;omega,?_⟩
    rcases b5 with ⟨z,b,b'⟩|⟨z,b⟩
    · rw [hera] at b b'
      refine .inl ⟨z,rfl,rfl,i,hi,b2,(show HasW n1.2.2 n1.1 _ from ⟨t1,p1,p2⟩).grow b3,b,b',(hht.grow g1).grow b3,h.idn,h.owns,h.over,h.root,hless⟩
    · replace b:n1.2.2.size<n1.2.2.busyN+(4*L.length+3):=b
      exact .inr ⟨z,by unfold costR;omega,b2,rfl,h.owns,h.over,rfl⟩
  · rw [if_neg (show¬r1.2.1=0 by omega),if_neg (show¬r1.2.1=0 by omega)]
    exact ⟨_,rfl,g1,by dsimp only;unfold costR;omega, .inr ⟨z,by unfold costR;omega,i1,rfl,h.owns,h.over,rfl⟩⟩
end
section
open Go.RowKit
def foundN (ds:Docs) (k L j:Nat):List Nat:=(List.range j).map fun q=>rowAt ds k (L - q)
theorem foundN_succ (ds:Docs) (k L j:Nat):foundN ds k L (j+1)=foundN ds k L j++[rowAt ds k (L - j)]:=by
  unfold foundN;rw [List.range_succ,List.map_append];rfl
theorem foundN_len (ds:Docs) (k L j:Nat):(foundN ds k L j).length=j:=by simp [foundN]
theorem posX_rise (id:Int) (m:Nat) (X:List (Int×Int×Int)):(posX id m X).Pairwise (· < ·):=List.pairwise_lt_range.filter _
theorem posX_mem {id:Int} {m i:Nat} {X:List (Int×Int×Int)}:i∈posX id m X↔i<m∧(X.getD i (0,0,0)).1=id:=by
  unfold posX
  rw [List.mem_filter,List.mem_range,decide_eq_true_iff]
section
variable {ds : Docs} {k : Nat} {d : Int × List UInt8}
theorem txt_at (hk:ds[k]? =some d):(txt ds)[k]? =some d.2:=by rw [List.getElem?_map,hk];rfl
theorem rowAt_inj (hR:Right ds) (hk:ds[k]? =some d) {a b:Nat} (ha:a≤d.2.length) (hb:b≤d.2.length) (e:rowAt ds k a=rowAt ds k b):a=b:=by
  have h1:=row_there hR (txt_at hk) ha
  have h2:=row_there hR (txt_at hk) hb
  rw [e,h2] at h1
  exact (Prod.mk.inj (Option.some.inj h1)).2.symm
theorem rowX_at {i:Nat} {r:Nat×Nat} (hi:(refSorted (txt ds))[i]? =some r):((rowsM ds).getD i (0,0,0)).1=(ds.getD r.1 (0,[])).1:=by
  rw [List.getD_eq_getElem?_getD]
  unfold rowsM
  rw [List.getElem?_map,hi];rfl
theorem found_perm (hR:Right ds) (hk:ds[k]? =some d):(foundN ds k d.2.length (d.2.length+1)).Perm (posX d.1 (rowsM ds).length (rowsM ds)):=by
  have hn1:(foundN ds k d.2.length (d.2.length+1)).Nodup:=by
    refine List.pairwise_map.2 ((List.pairwise_lt_range (n:=d.2.length+1)).imp_of_mem fun {a b} ha hb hab e=> ?_)
    rw [List.mem_range] at ha hb
    have:=rowAt_inj hR hk (by omega) (by omega) e
    omega
  have hn2:(posX d.1 (rowsM ds).length (rowsM ds)).Nodup:=(posX_rise _ _ _).imp fun h e=>by omega
  refine (List.perm_ext_iff_of_nodup hn1 hn2).2 fun i=> ?_
  rw [posX_mem]
  unfold foundN
  rw [List.mem_map]
  constructor
  · rintro ⟨q, -,rfl⟩
    have h1:=row_there hR (txt_at hk) (show d.2.length - q≤d.2.length by omega)
    refine ⟨by rw [rowsM_length];exact row_lt hR (txt_at hk) (by omega),?_⟩
    rw [rowX_at h1,List.getD_eq_getElem?_getD,hk];rfl
  · rintro ⟨h1,h2⟩
    rw [rowsM_length] at h1
    obtain ⟨r,hr⟩:=at_some h1
    rw [rowX_at hr] at h2
    obtain ⟨t,ht,hl⟩:=sorted_valid (List.getElem?_eq_some_iff.1 hr|>.2▸List.getElem_mem h1)
    rw [List.getElem?_map] at ht
    obtain ⟨e,he,het⟩:=Option.map_eq_some_iff.1 ht
    rw [List.getD_eq_getElem?_getD,he] at h2
    have hrk:r.1=k:=nodup_at hR.nodup he hk h2
    have hed:e=d:=by rw [hrk,hk] at he;exact (Option.some.inj he).symm
    have hl':r.2≤d.2.length:=by rw [←hed,het];exact hl
    refine ⟨d.2.length - r.2,List.mem_range.2 (by omega),?_⟩
    rw [show d.2.length - (d.2.length - r.2)=r.2 by omega,←hrk]
    exact row_place hR hr
structure C0 (x:Ct) (H:List Int) (ds:Docs) (k:Nat) (d:Int×List UInt8) (rate:Int) (j:Nat):Prop where
  inv:Inv x.s (x.src::H)
  vr:VR x.s x.src ds rate
  idn:x.id=d.1
  len:x.length=(d.2.length:Int)
  rows:x.rows=(foundN ds k d.2.length j).map fun i:Nat=>(i:Int)
  place:x.place=((rowAt ds k (d.2.length - j):Nat):Int)
  owns:x.owns=false
  over:x.over=false
  root:x.root=0
theorem findC_T {x:Ct} {H:List Int} {rate:Int} {j:Nat} (h:C0 x H ds k d rate j) (hR:Right ds) (hk:ds[k]? =some d) (hj:j<d.2.length): ∃y,x.find=some y∧y.s=x.s∧y.src=x.src∧C0 y H ds k d rate (j+1):=by
  have hn:=vnext_step h.inv h.vr hR (txt_at hk) (show d.2.length - (j+1)<d.2.length by omega)
  rw [show d.2.length - (j+1)+1=d.2.length - j by omega,←h.place] at hn
  have hrw:(x.found ((rowAt ds k (d.2.length - (j+1)):Nat):Int)).rows=(foundN ds k d.2.length (j+1)).map fun i:Nat=>(i:Int):=by
    show x.rows++[x.place]=_
    rw [foundN_succ,List.map_append,h.rows,h.place];rfl
  have hl:(((x.found ((rowAt ds k (d.2.length - (j+1)):Nat):Int)).rows.length:Nat):Int)≤x.length:=by
    rw [hrw,List.length_map,foundN_len,h.len];omega
  refine ⟨x.found ((rowAt ds k (d.2.length - (j+1)):Nat):Int),?_,rfl,rfl,⟨h.inv,h.vr,h.idn,h.len,hrw,rfl,h.owns,h.over,h.root⟩⟩
  unfold Ct.find
  rw [hn,Option.map_some]
  dsimp only
  rw [if_pos hl]
end
end
section
open Go.RowKit
theorem VR.busy {s:Ar} {root:Int} {ds:Docs} {rate:Int} (hI:Inv s [root]) (hv:VR s root ds rate) (hw:s.wait=[]):8*s.busyN≤2048+56*(rowsM ds).length+16*ds.length:=by
  rcases hv.ex with ⟨rfl,rfl⟩|⟨t,hr,tw,tm,tsp,tt,rfl,h1,h2,h3,h4⟩
  · have:=hI.busy_le hw (T:=[.nil]) ⟨.nil,trivial⟩
    simp only [sizes,List.map_cons,List.map_nil,List.sum_cons,List.sum_nil,Tr.size] at this
    omega
  · have:=hI.busy_le hw (T:=[_]) ⟨hr,trivial⟩
    simp only [sizes,List.map_cons,List.map_nil,List.sum_cons,List.sum_nil,Tr.size] at this
    have a1:=h1.size;have a2:=h2.size;have a3:=h3.size;have a4:=h4.size
    have b1:=rowS_length rate (rowsM ds)
    have b2:(rowW (rowsM ds)).length=(rowsM ds).length:=by simp [rowW]
    have b3:(rowM rate (rowsM ds)).length=(rowsM ds).length:=by simp [rowM]
    have b4:(docsM ds).length=ds.length:=by simp [docsM]
    omega
theorem VR.root {s:Ar} {root:Int} {ds:Docs} {rate:Int} (hv:VR s root ds rate) (h0:root≠0):s.has root=true∧s.get root=⟨6,(vOf s root).wave,(vOf s root).marks,(vOf s root).spots,(vOf s root).table,0,0⟩:=by
  rcases hv.ex with ⟨rfl,rfl⟩|⟨t,hr,tw,tm,tsp,tt,rfl,h1,h2,h3,h4⟩
  · exact absurd rfl h0
  · obtain ⟨k0,k1,k2,k3,hh,hg, -⟩:=hr.get
    have hvi:vIs s root=true:=by
      unfold vIs
      rw [hh,hg]
      simp [hv.live h0]
    have hz:vOf s root=⟨k0,k1,k2,k3⟩:=by unfold vOf;rw [if_pos ⟨h0,hvi⟩,hg]
    rw [hz];exact ⟨hh,hg⟩
end
section
open Go.RowKit
structure P0 (x:Pt) (H:List Int) (ds:Docs) (d:Int×List UInt8) (rate:Int):Prop where
  inv:Inv x.s (x.src::H)
  vr:VR x.s x.src ds rate
  id:x.id=d.1
  text:x.text=d.2
  rt:x.rate=rate
  begun:x.begun=false
  over:x.over=false
  root:x.root=0
  pos:x.pos=(d.2.length:Int)
  p0:x.p=Parts.zero
theorem inv_filter {s:Ar} {H:List Int}: ∀(l:List Int),Inv s (l++H)→Inv s ((l.filter fun h=> !decide (h=0))++H)
  | [],h=>h
  | k::l,h=>by
    rw [List.filter_cons]
    by_cases hk:k=0
    · rw [hk] at h
      rw [if_neg (by simp [hk])]
      exact inv_filter l (Inv.tail_zero h)
    · rw [if_pos (by simp [hk])]
      have h1:Inv s (l++(k::H)):=h.perm List.perm_middle.symm
      have h2:=inv_filter l h1
      exact h2.perm List.perm_middle
theorem insI_perm' (x:Int): ∀l:List Int,(insI x l).Perm (x::l)
  | []=>List.Perm.refl _
  | y::l=>by
    unfold insI
    split
    · exact List.Perm.refl _
    · exact ((insI_perm' x l).cons y).trans (List.Perm.swap x y l)
theorem sortI_perm': ∀l:List Int,(sortI l).Perm l
  | []=>List.Perm.refl _
  | x::l=>(insI_perm' x (sortI l)).trans ((sortI_perm' l).cons x)
theorem keep1 {s:Ar} {H:List Int} {k:Int} (h:Inv s H) (hH:H.length≤900000) (hk:k≠0→s.cnt k≠0):Inv (s.keep k) (k::H)∧Grow s (s.keep k)∧(s.keep k).busyN=s.busyN∧ ∀j,s.cnt j≠0→(s.keep k).cnt j≠0:=by
  by_cases e:k=0
  · subst e
    rw [keep_zero]
    exact ⟨h.zero_cons (by omega),Grow.refl _,rfl,fun j hj=>hj⟩
  · have hI:=h.keep (by omega) (hk e)
    refine ⟨hI,Grow.keep _ _,busyN_keep _ _,fun j hj=> ?_⟩
    exact h.live hI (Grow.keep _ _) (fun y=>by rw [List.count_cons];omega) hj
end
section
open Go.RowKit
theorem insI_rise (x:Int): ∀{l:List Int},l.Pairwise (· ≤ ·)→(insI x l).Pairwise (· ≤ ·)
  | [],_=>by simp [insI]
  | y::l,h=>by
    unfold insI
    rw [List.pairwise_cons] at h
    split
    · rename_i hxy
      refine List.pairwise_cons.2 ⟨fun z hz=> ?_,List.pairwise_cons.2 h⟩
      rcases List.mem_cons.1 hz with rfl|hz
      · exact hxy
      · have:=h.1 z hz;omega
    · rename_i hxy
      refine List.pairwise_cons.2 ⟨fun z hz=> ?_,insI_rise x h.2⟩
      rcases List.mem_cons.1 ((insI_perm' x l).mem_iff.1 hz) with rfl|hz
      · omega
      · exact h.1 z hz
theorem sortI_rise: ∀l:List Int,(sortI l).Pairwise (· ≤ ·)
  | []=>List.Pairwise.nil
  | x::l=>insI_rise x (sortI_rise l)
section
variable {x : Ct} {H : List Int} {ds : Docs} {k : Nat} {d : Int × List UInt8} {rate : Int}
theorem sort_found (hR:Right ds) (hk:ds[k]? =some d):sortI ((foundN ds k d.2.length (d.2.length+1)).map fun i:Nat=>(i:Int))=(posX d.1 (rowsM ds).length (rowsM ds)).map fun i:Nat=>(i:Int):=by
  refine List.Perm.eq_of_pairwise (le:=(· ≤ ·)) (fun a b _ _ h1 h2=>by omega) (sortI_rise _) ?_ ((sortI_perm' _).trans ((found_perm hR hk).map _))
  exact List.pairwise_map.2 ((posX_rise _ _ _).imp fun h=>by omega)
theorem beginC_T (h : C0 x H ds k d rate d.2.length) (hR : Right ds) (hk : ds[k]? = some d) (hH : H.length ≤ 900) :
    ∃y,x.find=some y∧y.src=x.src∧Grow x.s y.s∧y.s.busyN=x.s.busyN∧Cv y (x.src::H) (rowsM ds) (docsM ds) d.1 rate (rowsM ds).length:=by
  have hpl:=h.place
  rw [Nat.sub_self] at hpl
  have hn:=vnext_stop h.inv h.vr hR (txt_at hk)
  rw [←hpl] at hn
  have hrw:(x.found 0).rows=(foundN ds k d.2.length (d.2.length+1)).map fun i:Nat=>(i:Int):=by
    show x.rows++[x.place]=_
    rw [foundN_succ,List.map_append,h.rows,hpl,Nat.sub_self];rfl
  have hl: ¬(((x.found 0).rows.length:Nat):Int)≤x.length:=by
    rw [hrw,List.length_map,foundN_len,h.len];omega
  obtain ⟨pw,pm,psp,pt,hvi⟩:=h.vr.parts h.inv (by have:=hR.len;omega)
  obtain ⟨q,hq⟩: ∃q,vOf x.s x.src=q:=⟨_,rfl⟩
  rw [hq] at pw pm psp pt
  have k1:=keep1 h.inv (by simp;omega) pw.live
  have k2:=keep1 k1.1 (by simp;omega) (fun e=>k1.2.2.2 _ (pm.live e))
  have k3:=keep1 k2.1 (by simp;omega) (fun e=>k2.2.2.2 _ (k1.2.2.2 _ (psp.live e)))
  have k4:=keep1 k3.1 (by simp;omega) (fun e=>k3.2.2.2 _ (k2.2.2.2 _ (k1.2.2.2 _ (pt.live e))))
  have hkp:keepP x.s q=(((x.s.keep q.wave).keep q.marks).keep q.spots).keep q.table:=rfl
  have hG:Grow x.s (keepP x.s q):=((k1.2.1.trans k2.2.1).trans k3.2.1).trans k4.2.1
  have hB:(keepP x.s q).busyN=x.s.busyN:=by rw [hkp,k4.2.2.1,k3.2.2.1,k2.2.2.1,k1.2.2.1]
  have hI:Inv (keepP x.s q) (q.wave::q.marks::q.spots::q.table::x.src::H):=k4.1.perm (by
    have e1:(q.table::q.spots::q.marks::q.wave::x.src::H)=[q.table,q.spots,q.marks,q.wave]++(x.src::H):=rfl
    have e2:(q.wave::q.marks::q.spots::q.table::x.src::H)=[q.wave,q.marks,q.spots,q.table]++(x.src::H):=rfl
    rw [e1,e2]
    refine List.Perm.append_right _ ?_
    have:[q.wave,q.marks,q.spots,q.table]=[q.table,q.spots,q.marks,q.wave].reverse:=rfl
    rw [this]
    exact (List.reverse_perm _).symm)
  have hb:(x.found 0).begin={x.found 0 with rows:=sortI (x.found 0).rows,p:=q,s:=keepP x.s q,owns:=true}:=by
    unfold Ct.begin
    rw [show vOf (x.found 0).s (x.found 0).src=q from hq];rfl
  refine ⟨(x.found 0).begin,?_,?_,?_,?_,?_⟩
  · unfold Ct.find
    rw [hn,Option.map_some]
    dsimp only
    rw [if_neg hl]
  · rw [hb];rfl
  · rw [hb];exact hG
  · rw [hb];exact hB
  · rw [hb]
    refine ⟨hI,?_,?_,?_,?_,h.idn,rfl,h.over,h.root,?_⟩
    · rw [cutX_all];obtain ⟨t,a,b⟩:=pw.ex;exact ⟨t,a.grow hG,b⟩
    · rw [cutX_all];obtain ⟨t,a,b⟩:=pm.ex;exact ⟨t,a.grow hG,b⟩
    · rw [cutX_all];obtain ⟨t,a,b⟩:=psp.ex;exact ⟨t,a.grow hG,b⟩
    · obtain ⟨t,a,b⟩:=pt.ex;exact ⟨t,a.grow hG,b⟩
    · show sortI (x.found 0).rows=_
      rw [hrw];exact sort_found hR hk
end
end
section
open Go.RowKit
theorem stopC_T {x:Ct} {H:List Int} (h:Inv x.s (x.src::x.p.wave::x.p.marks::x.p.spots::x.p.table::H)) (ho:x.over=false) (hw:x.owns=true):Inv x.stop.s H∧Grow x.s x.stop.s∧x.stop.s.busyN=x.s.busyN:=by
  have hh:x.held=(sortI [x.src,x.p.wave,x.p.marks,x.p.spots,x.p.table]).filter fun h=> !decide (h=0):=by unfold Ct.held Ct.list;rw [ho,if_neg (by decide),hw,if_pos rfl]
  show Inv (x.s.dropAll x.held) H∧Grow x.s (x.s.dropAll x.held)∧(x.s.dropAll x.held).busyN=_
  rw [hh]
  have h1:Inv x.s ([x.src,x.p.wave,x.p.marks,x.p.spots,x.p.table]++H):=h
  have h2:Inv x.s (sortI [x.src,x.p.wave,x.p.marks,x.p.spots,x.p.table]++H):=h1.perm ((sortI_perm' _).symm.append_right H)
  exact ⟨Inv.dropAll (inv_filter _ h2),Grow.dropAll _ _,busyN_dropAll _ _⟩
theorem stopC_0 {x:Ct} {H:List Int} (h:Inv x.s (x.src::H)) (ho:x.over=false) (hw:x.owns=false):Inv x.stop.s H∧Grow x.s x.stop.s∧x.stop.s.busyN=x.s.busyN:=by
  have hh:x.held=(sortI [x.src]).filter fun h=> !decide (h=0):=by unfold Ct.held Ct.list;rw [ho,if_neg (by decide),hw,if_neg (by decide)]
  show Inv (x.s.dropAll x.held) H∧Grow x.s (x.s.dropAll x.held)∧(x.s.dropAll x.held).busyN=_
  rw [hh]
  have h1:Inv x.s ([x.src]++H):=h
  have h2:Inv x.s (sortI [x.src]++H):=h1.perm ((sortI_perm' _).symm.append_right H)
  exact ⟨Inv.dropAll (inv_filter _ h2),Grow.dropAll _ _,busyN_dropAll _ _⟩
theorem rep_nil {s:Ar} {h:Int} {t:Tr} (hr:Rep s h t) (e:t= .nil):h=0:=by
  cases hr with
  | nil=>rfl
  | nd=>cases e
theorem cut_done {id:Int} {m:Nat} {X:List (Int×Int×Int)} (hm:m≤X.length) (h:posX id m X=[]):cutX id m X=X.filter (notOf id):=by
  rcases posX_last id X m hm with ⟨-,h2⟩|⟨r,y, -, -, -,h2, -⟩
  · rw [h2,cutX_zero]
  · rw [h] at h2;simp at h2
theorem endC_T {x : Ct} {H : List Int} {ds : Docs} {k : Nat} {d : Int × List UInt8} {rate : Int} {m : Nat} (h : Cv x (x.src :: H) (rowsM ds) (docsM ds) d.1 rate m) (hne : x.rows = []) (hm : m ≤ (rowsM ds).length) (hR : Right ds) (hk : ds[k]? = some d) (hH : H.length ≤ 900) :
    ∃e y,x.step=some (true,e,y)∧Grow x.s y.s∧y.s.busyN≤x.s.busyN+31∧y.over=true∧
      ((e=0∧Inv y.s (y.root::H)∧VR y.s y.root (ds.eraseIdx k) rate∧(ds.eraseIdx k=[]→y.root=0))∨(e=2∧x.s.size<x.s.busyN+31∧Inv y.s H∧y.root=0)):=by
  have hpos:posX d.1 m (rowsM ds)=[]:=by
    have:=h.rows;rw [hne] at this;exact List.map_eq_nil_iff.1 this.symm
  have hX:cutX d.1 m (rowsM ds)=rowsM (ds.eraseIdx k):=(cut_done hm hpos).trans (rowsM_era hR hk)
  have hlen:=hR.len
  have hdl:(docsM ds).length=ds.length:=by simp [docsM]
  have hlt:LR x.s x.p.table (docsM ds):=⟨h.t,fun e=>h.inv.pos (by simp) e,by omega⟩
  have hnd:((docsM ds).map (·.1)).Nodup:=by
    have:(docsM ds).map (·.1)=ds.map (·.1):=by unfold docsM;rw [List.map_map];rfl
    rw [this];exact hR.nodup
  have hat:(docsM ds)[k]? =some (d.1,(d.2.length:Int)):=by unfold docsM;rw [List.getElem?_map,hk];rfl
  obtain ⟨r,e1,R⟩:=tCut_R h.inv (by simp;omega) hlt hnd hat
  have hde:(docsM ds).eraseIdx k=docsM (ds.eraseIdx k):=by unfold docsM;rw [era_map]
  rw [hde] at R
  obtain ⟨i1,g1,c1,q1⟩:=swap_T (H1:=[x.p.wave,x.p.marks,x.p.spots]) (H2:=x.src::H) R
  have E:=swapC_eq x 3 r
  have hat3:x.p.at 3=x.p.table:=rfl
  rw [hat3] at E
  have hst:x.step=some (Ct.made (x.swap 3 r)):=by
    unfold Ct.step
    rw [h.over,if_neg (by decide),h.owns,if_neg (by decide),if_pos hne,h.idn,e1];rfl
  rw [hst,E]
  generalize nextA true x.p.table r=n at*
  have hgs:=g1.size
  have hI: ∀{s:Ar} {F:List Int},Inv s (x.p.wave::x.p.marks::x.p.spots::n.1::x.src::F)→Inv s (x.src::x.p.wave::x.p.marks::x.p.spots::n.1::F):=fun {s F} hi=>hi.perm (by
    have e1:(x.p.wave::x.p.marks::x.p.spots::n.1::x.src::F)=[x.p.wave,x.p.marks,x.p.spots,n.1]++x.src::F:=rfl
    rw [e1];exact List.perm_middle)
  replace i1:Inv n.2.2 (x.p.wave::x.p.marks::x.p.spots::n.1::x.src::H):=i1
  unfold Ct.made
  rcases q1 with ⟨z,t',p1,p2⟩|⟨z,z2,z3⟩
  · rw [if_pos z]
    dsimp only
    rw [if_pos rfl]
    have hpp:x.p.put 3 n.1=⟨x.p.wave,x.p.marks,x.p.spots,n.1⟩:=rfl
    rw [hpp]
    unfold vMake
    dsimp only
    by_cases hz:x.p.wave=0∧x.p.marks=0∧x.p.spots=0∧n.1=0
    · rw [if_pos hz]
      obtain ⟨s1,s2,s3⟩:=stopC_T (x:={x with s:=n.2.2,p:=⟨x.p.wave,x.p.marks,x.p.spots,n.1⟩,root:=0}) (hI i1) h.over h.owns
      refine ⟨_,_,rfl,g1.trans s2,by rw [s3];show n.2.2.busyN≤_;omega,rfl, .inl ⟨rfl,s1.zero_cons (by omega),⟨.inl ⟨rfl,?_⟩,fun e=>absurd rfl e⟩,fun _=>rfl⟩⟩
      have ht:=p1
      rw [hz.2.2.2] at ht
      have hnil:docsM (ds.eraseIdx k)=[]:=by
        rcases p2 with ⟨-,q⟩|q
        · exact q
        · exact absurd rfl (ht.ne_ofL q)
      unfold docsM at hnil
      exact List.map_eq_nil_iff.1 hnil
    · rw [if_neg hz]
      rcases i1.make (by simp;omega) ⟨6,x.p.wave,x.p.marks,x.p.spots,n.1,0,0⟩ ⟨by dsimp only;omega,by dsimp only;omega⟩ U64.zero (fun k hk h0=>i1.pos (by simp [Nd.kids] at hk;simp;rcases hk with q|q|q|q<;>simp [q]) h0) with ⟨m1,m2⟩|⟨f,f1,f2,f3,m1,m2,m3,m4,m5,m6,m7⟩
      · rw [m1]
        obtain ⟨s1,s2,s3⟩:=stopC_T (x:={x with s:=n.2.2,p:=⟨x.p.wave,x.p.marks,x.p.spots,n.1⟩,root:=0}) (hI i1) h.over h.owns
        exact ⟨_,_,rfl,g1.trans s2,by rw [s3];show n.2.2.busyN≤_;omega,rfl, .inr ⟨rfl,by omega,s1,rfl⟩⟩
      · generalize n.2.2.make ⟨6,x.p.wave,x.p.marks,x.p.spots,n.1,0,0⟩=v at*
        have hJ:Inv v.2.2 (x.src::x.p.wave::x.p.marks::x.p.spots::n.1::((f:Int)::H)):=m3.perm (by
          have e1:((f:Int)::x.p.wave::x.p.marks::x.p.spots::n.1::x.src::H)=[(f:Int),x.p.wave,x.p.marks,x.p.spots,n.1]++x.src::H:=rfl
          rw [e1]
          refine List.perm_middle.trans (List.Perm.cons _ ?_)
          show ((f:Int)::([x.p.wave,x.p.marks,x.p.spots,n.1]++H)).Perm ([x.p.wave,x.p.marks,x.p.spots,n.1]++(f:Int)::H)
          exact List.perm_middle.symm)
        obtain ⟨s1,s2,s3⟩:=stopC_T (x:={x with s:=v.2.2,p:=⟨x.p.wave,x.p.marks,x.p.spots,n.1⟩,root:=v.1}) hJ h.over h.owns
        have hf0:(f:Int)≠0:=by omega
        have hfh:v.2.2.has (f:Int)=true:=has_iff.2 ⟨by omega,by rw [m4.size];omega,by simpa using m5⟩
        obtain ⟨tw,w1,w2⟩:=h.w
        obtain ⟨tm,n1,n2⟩:=h.bm
        obtain ⟨tsp,o1,o2⟩:=h.sp
        rw [hX] at w2 n2 o2
        have hrep:Rep v.2.2 (f:Int) (.nd 6 0 0 tw tm tsp t'):= .nd hfh (by rw [get_nat hfh,Int.toNat_natCast,m6]) ((w1.grow g1).grow m4) ((n1.grow g1).grow m4) ((o1.grow g1).grow m4) (p1.grow m4)
        refine ⟨_,_,rfl,(g1.trans m4).trans s2,?_,rfl, .inl ⟨m2,?_,?_,fun he=>absurd ?_ hz⟩⟩
        rotate_left 3
        · rw [he] at w2 n2 o2 p2
          have e1:rowsM ([]:Docs)=[]:=rfl
          rw [e1] at w2 n2 o2
          refine ⟨?_,?_,?_,?_⟩
          · cases w2 with
            | nil=>exact rep_nil w1 rfl
            | node h1=>exact absurd rfl h1
          · rcases n2 with ⟨rfl, -⟩|⟨h1, -⟩|h1
            · exact rep_nil n1 rfl
            · exact absurd rfl h1.ne
            · exact absurd rfl h1.ne
          · rcases o2 with ⟨rfl, -⟩|h1
            · exact rep_nil o1 rfl
            · exact absurd rfl h1.ne
          · rcases p2 with ⟨rfl, -⟩|h1
            · exact rep_nil p1 rfl
            · exact absurd rfl h1.ne
        · rw [s3];show v.2.2.busyN≤_;omega
        · show Inv _ (v.1::H)
          rw [m1];exact s1
        · show VR _ v.1 _ _
          rw [m1]
          exact ⟨.inr ⟨_,hrep.grow s2,tw,tm,tsp,t',rfl,w2,n2,o2,p2⟩,fun _=>s1.pos (by simp) hf0⟩
  · rw [if_neg (show¬r.2.1=0 by omega)]
    dsimp only
    rw [if_neg (show¬r.2.1=0 by omega)]
    obtain ⟨s1,s2,s3⟩:=stopC_T (x:={x with s:=n.2.2,p:=x.p.put 3 n.1}) (hI i1) h.over h.owns
    exact ⟨_,_,rfl,g1.trans s2,by rw [s3];show n.2.2.busyN≤_;omega,rfl, .inr ⟨z,by omega,s1,h.root⟩⟩
end
section
open Go.RowKit
theorem VR.move {s s':Ar} {h:Int} {ds:Docs} {rate:Int} (hv:VR s h ds rate) (hr: ∀t,Rep s h t→Rep s' h t) (hl:h≠0→s'.cnt h≠0):VR s' h ds rate:=by
  refine ⟨?_,hl⟩
  rcases hv.ex with h0|⟨t,ht,hvt⟩
  · exact .inl h0
  · exact .inr ⟨t,hr t ht,hvt⟩
def Stage (x:Pt) (H:List Int) (ds:Docs) (d:Int×List UInt8) (rate:Int) (j:Nat):Prop:=
  (j=d.2.length+3∧P0 x H ds d rate)∨(∃a,j=a+1∧a≤d.2.length+1∧Pv x (x.src::H) ds d rate a)∨(j=0∧x.over=true∧x.root≠0∧Inv x.s (x.root::H)∧VR x.s x.root (ds++[d]) rate)
section
variable {x : Pt} {H : List Int} {ds : Docs} {d : Int × List UInt8} {rate : Int}
theorem Stage.left {j:Nat} (h:Stage x H ds d rate j) (hl:d.2.length≤40):x.left=(j:Int):=by
  unfold Pt.left
  rcases h with ⟨rfl,h⟩|⟨a,rfl,ha,h⟩|⟨rfl,h, -⟩
  · rw [h.over,if_neg (by decide),h.begun,if_neg (by decide),h.text,w64 (by omega) (by omega)];omega
  · rw [h.over,if_neg (by decide),h.begun,if_pos rfl,h.pos,w64 (by omega) (by omega)];omega
  · rw [h,if_pos rfl];rfl
def Stage.list (x:Pt) (H:List Int) (j:Nat):List Int:=if j=0 then x.root::H else if x.begun then x.p.wave::x.p.marks::x.p.spots::x.p.table::x.src::H else x.src::H
theorem Stage.list_len (x:Pt) (H:List Int) (j:Nat):(Stage.list x H j).length≤H.length+5:=by
  unfold Stage.list
  split
  · simp
  · split<;>simp
theorem Stage.list_mem (x:Pt) (H:List Int) (j:Nat) {k:Int} (hk:k∈H):k∈Stage.list x H j:=by
  unfold Stage.list
  split
  · simp [hk]
  · split<;>simp [hk]
theorem Stage.inv {j:Nat} (h:Stage x H ds d rate j):Inv x.s (Stage.list x H j):=by
  unfold Stage.list
  rcases h with ⟨rfl,h⟩|⟨a,rfl,ha,h⟩|⟨rfl,h,h2,h3, -⟩
  · rw [if_neg (by omega),h.begun,if_neg (by decide)];exact h.inv
  · rw [if_neg (by omega),h.begun,if_pos rfl];exact h.inv
  · rw [if_pos rfl];exact h3
theorem Pv.work {a:Nat} (h:Pv x H ds d rate a) {s':Ar} (hI:Inv s' (x.p.wave::x.p.marks::x.p.spots::x.p.table::H)) (hs:Stay x.s s' (x.p.wave::x.p.marks::x.p.spots::x.p.table::H)):Pv {x with s:=s'} H ds d rate a:=
  ⟨hI,h.w.stay hs (by simp),h.m.stay hs (by simp),h.sp.stay hs (by simp),h.t.stay hs (by simp),h.id,h.text,h.rt,h.begun,h.over,h.root,h.pos,h.row⟩
def PtIn (x:Pt):Prop:= -1≤x.pos∧x.pos≤x.text.length∧x.text.length≤50000∧1≤x.rate
theorem root_refs1 {s:Ar} {root:Int} (hI:Inv s [root]) (hw:s.wait=[]) (h0:root≠0):s.refs root=0:=by
  obtain ⟨rk,hrk⟩:=hI.rank
  have hlt: ∀{x k:Int},s.has x=true→k∈(s.get x).kids→k≠0→rk k.toNat<rk x.toNat:=fun {x k} hx hkx hk0=>by
    obtain ⟨n,rfl,n1,n2,n3⟩:=has_nat hx
    rw [get_nat hx,Int.toNat_natCast] at hkx
    rw [Int.toNat_natCast]
    exact hrk n n1 n2 n3 k hkx hk0
  have hall: ∀x,Rc s [root] x→rk x.toNat≤rk root.toNat:=fun x hx=>by
    induction hx with
    | held h1 h2=>rw [List.mem_singleton.1 h1];exact Nat.le_refl _
    | @kid y k hr h1 h2 ih=>exact Nat.le_of_lt (Nat.lt_of_lt_of_le (hlt (hI.rc hr).1 h1 h2) ih)
  refine refsTo_zero _ _ _ _ fun n n1 n2 n3 hm=> ?_
  have hn:s.has (n:Int)=true:=has_iff.2 ⟨by omega,by omega,by simpa using n3⟩
  have hm':root∈(s.get (n:Int)).kids:=by rw [get_nat hn,Int.toNat_natCast];exact hm
  have h1:=hlt hn hm' h0
  have h2:=hall _ (hI.reached hw hn)
  omega
theorem cnt_one {s:Ar} {root:Int} (hI:Inv s [root]) (hw:s.wait=[]) (h0:root≠0):s.cnt root=1:=by
  obtain ⟨n,rfl,n1,n2,n3⟩:=has_nat (hI.held root (by simp) h0)
  rw [Ar.cnt_nat n1 n2,hI.cnt n n1 n2 n3,root_refs1 hI hw h0]
  simp
def Sz (s:Ar) (B:Nat) (k:Int):Prop:= ∃t,Rep s k t∧8*t.size≤B
theorem VR.sz {s:Ar} {k:Int} {ds':Docs} {rate':Int} (hv:VR s k ds' rate'):Sz s (2048+56*(rowsM ds').length+16*ds'.length) k:=by
  rcases hv.ex with ⟨rfl,rfl⟩|⟨t,hr,tw,tm,tsp,tt,rfl,h1,h2,h3,h4⟩
  · exact ⟨.nil, .nil,by simp [Tr.size]⟩
  · refine ⟨_,hr,?_⟩
    simp only [Tr.size]
    have a1:=h1.size;have a2:=h2.size;have a3:=h3.size;have a4:=h4.size
    have b1:=rowS_length rate' (rowsM ds')
    have b2:(rowW (rowsM ds')).length=(rowsM ds').length:=by simp [rowW]
    have b3:(rowM rate' (rowsM ds')).length=(rowsM ds').length:=by simp [rowM]
    have b4:(docsM ds').length=ds'.length:=by simp [docsM]
    omega
theorem sz_reps {s:Ar} {B:Nat}: ∀{H:List Int},(∀k∈H,Sz s B k)→ ∃T,Reps s H T∧8*sizes T≤H.length*B
  | [],_=>⟨[],trivial,by simp [sizes]⟩
  | k::H,h=>by
    obtain ⟨t,a,b⟩:=h k (by simp)
    obtain ⟨T,c,e⟩:=sz_reps (H:=H) fun q hq=>h q (by simp [hq])
    refine ⟨t::T,⟨a,c⟩,?_⟩
    have e1:sizes (t::T)=t.size+sizes T:=by simp [sizes]
    have e2:(H.length+1)*B=H.length*B+B:=Nat.succ_mul _ _
    rw [e1,List.length_cons,e2]
    omega
end
end
section
open Go.RowKit
theorem newC_T {s : Ar} {root : Int} {H : List Int} {ds : Docs} {k : Nat} {d : Int × List UInt8} {rate : Int} (hI : Inv s H) (hH : H.length ≤ 900) (hv : VR s root ds rate) (hk : ds[k]? = some d) :
    C0 (Ct.new s root d.1 (d.2.length:Int) (k:Int)) H ds k d rate 0∧Grow s (s.keep root)∧(s.keep root).busyN=s.busyN:=by
  have hg:=keep1 (k:=root) hI (by omega) hv.live
  refine ⟨⟨hg.1,hv.move (fun t ht=>ht.grow hg.2.1) (fun e=>hg.1.pos (by simp) e),rfl,rfl,rfl,?_,rfl,rfl,rfl⟩,hg.2.1,hg.2.2.1⟩
  show (k:Int)=((rowAt ds k (d.2.length - 0):Nat):Int)
  unfold rowAt
  rw [Nat.sub_zero,end_all (txt_at hk)]
def StageC (x:Ct) (H:List Int) (ds:Docs) (k:Nat) (d:Int×List UInt8) (rate:Int) (j:Nat):Prop:=
  (∃a,a≤d.2.length∧j+a=2*d.2.length+3∧C0 x H ds k d rate a)∨
  (∃m,m≤(rowsM ds).length∧j=x.rows.length+1∧Cv x (x.src::H) (rowsM ds) (docsM ds) d.1 rate m)∨
  (j=0∧x.over=true∧Inv x.s (x.root::H)∧VR x.s x.root (ds.eraseIdx k) rate∧(ds.eraseIdx k=[]→x.root=0))
section
variable {x : Ct} {H : List Int} {ds : Docs} {k : Nat} {d : Int × List UInt8} {rate : Int}
theorem rowsSy (hR:Right ds):Sy (rowW (rowsM ds)):=fun y hy=>by
  rw [rowW_all hR] at hy
  obtain ⟨r, -,rfl⟩:=List.mem_map.1 hy
  exact sym_bound r
theorem stepC_full {j : Nat} (h : StageC x H ds k d rate (j + 1)) (hR : Right ds) (hk : ds[k]? = some d) (hH : H.length ≤ 900) :
    ∃o e y,x.step=some (o,e,y)∧Grow x.s y.s∧y.s.busyN≤x.s.busyN+costR (rowsM ds).length∧
      ((e=0∧o=decide (j=0)∧StageC y H ds k d rate j∧(1≤j→y.src=x.src))∨(e=2∧o=true∧x.s.size<x.s.busyN+costR (rowsM ds).length∧y.over=true∧Inv y.s H∧y.root=0)):=by
  have hX:(rowsM ds).length≤500:=rowsM_small ds
  have hcost:50≤costR (rowsM ds).length:=by unfold costR;omega
  rcases h with ⟨a,ha,hj,h⟩|⟨m,hm,hj,h⟩|⟨hj, -⟩
  · by_cases e:a=d.2.length
    · subst e
      obtain ⟨y,e1,e2,e3,e4,e5⟩:=beginC_T h hR hk hH
      have hrl:y.rows.length=d.2.length+1:=by
        rw [e5.rows,List.length_map,←(found_perm hR hk).length_eq,foundN_len]
      refine ⟨_,0,y,?_,e3,by omega, .inl ⟨rfl,rfl, .inr (.inl ⟨_,Nat.le_refl _,by omega,by rw [e2];exact e5⟩),fun _=>e2⟩⟩
      unfold Ct.step
      rw [h.over,if_neg (by decide),h.owns,if_pos rfl,e1,decide_eq_false (by omega)];rfl
    · obtain ⟨y,e1,e2,e3,e4⟩:=findC_T h hR hk (by omega)
      refine ⟨_,0,y,?_,by rw [e2];exact Grow.refl _,by rw [e2];omega, .inl ⟨rfl,rfl, .inl ⟨a+1,by omega,by omega,e4⟩,fun _=>e3⟩⟩
      unfold Ct.step
      rw [h.over,if_neg (by decide),h.owns,if_pos rfl,e1,decide_eq_false (by omega)];rfl
  · by_cases e:x.rows=[]
    · have hj0:j=0:=by rw [e] at hj;simp at hj;exact hj
      obtain ⟨er,y,e1,g1,c1,o1,q1⟩:=endC_T h e hm hR hk hH
      rcases q1 with ⟨rfl,hI,hv,he⟩|⟨rfl,hf,hI,hr⟩
      · exact ⟨true,0,y,e1,g1,by omega, .inl ⟨rfl,(decide_eq_true hj0).symm, .inr (.inr ⟨hj0,o1,hI,hv,he⟩),fun q=>by omega⟩⟩
      · exact ⟨true,2,y,e1,g1,by omega, .inr ⟨rfl,rfl,by omega,o1,hI,hr⟩⟩
    · obtain ⟨r,e1,g1,c1,q1⟩:=takeC_T h hX (rowsSy hR) hm (by simp;omega) e
      have hpos:=List.length_pos_iff.2 e
      rcases q1 with ⟨z,hs,hrw,k',hk',hv⟩|⟨z,hf,hc⟩
      · refine ⟨_,0,r.2,?_,g1,c1, .inl ⟨rfl,rfl, .inr (.inl ⟨k',by omega,?_,by rw [hs];exact hv⟩),fun _=>hs⟩⟩
        · unfold Ct.step
          rw [h.over,if_neg (by decide),h.owns,if_neg (by decide),if_neg e,e1,decide_eq_false (by omega)]
          show some (Ct.asked r)=_
          unfold Ct.asked
          rw [if_pos z]
        · rw [hrw,List.length_dropLast];omega
      · have hI : Inv r.2.s (r.2.src :: r.2.p.wave :: r.2.p.marks :: r.2.p.spots :: r.2.p.table :: H) := by
          have h1:=hc.inv
          rw [←hc.src] at h1
          exact h1.perm (by
            have e1:(r.2.p.wave::r.2.p.marks::r.2.p.spots::r.2.p.table::r.2.src::H)=[r.2.p.wave,r.2.p.marks,r.2.p.spots,r.2.p.table]++r.2.src::H:=rfl
            rw [e1];exact List.perm_middle)
        obtain ⟨s1,s2,s3⟩:=stopC_T hI hc.over hc.owns
        refine ⟨true,2,r.2.stop,?_,g1.trans s2,by rw [s3];exact c1, .inr ⟨rfl,rfl,hf,rfl,s1,hc.root.trans h.root⟩⟩
        unfold Ct.step
        rw [h.over,if_neg (by decide),h.owns,if_neg (by decide),if_neg e,e1]
        show some (Ct.asked r)=_
        unfold Ct.asked
        rw [if_neg (by omega),z]
  · omega
theorem stepC_T {j : Nat} (h : StageC x H ds k d rate (j + 1)) (hR : Right ds) (hk : ds[k]? = some d) (hH : H.length ≤ 900) (hroom : x.s.busyN + costR (rowsM ds).length ≤ x.s.size) :
    ∃y,x.step=some (decide (j=0),0,y)∧Grow x.s y.s∧StageC y H ds k d rate j∧(1≤j→y.src=x.src)∧y.s.busyN≤x.s.busyN+costR (rowsM ds).length:=by
  obtain ⟨o,e,y,e1,g1,c1,q⟩:=stepC_full h hR hk hH
  rcases q with ⟨rfl,rfl,hs,hsrc⟩|⟨-, -,hf, -⟩
  · exact ⟨y,e1,g1,hs,hsrc,c1⟩
  · omega
theorem StageC.left {j:Nat} (h:StageC x H ds k d rate j) (hR:Right ds) (hk:ds[k]? =some d):x.left=(j:Int):=by
  have h40:=(right_len hR.right).2 k
  rw [getD_at (txt_at hk)] at h40
  have hX:(rowsM ds).length≤500:=rowsM_small ds
  unfold Ct.left
  rcases h with ⟨a,ha,hj,h⟩|⟨m,hm,hj,h⟩|⟨rfl,h, -⟩
  · have hl:x.rows.length=a:=by rw [h.rows,List.length_map,foundN_len]
    rw [h.over,if_neg (by decide),h.owns,if_neg (by decide),h.len,hl]
    generalize d.2.length=L at*
    rw [w64 (x:=2*(L:Int)) (by omega) (by omega),w64 (x:=2*(L:Int)+3) (by omega) (by omega),w64 (by omega) (by omega)]
    omega
  · have hl : x.rows.length ≤ 500 := by
      have h1:(posX d.1 m (rowsM ds)).length≤m:=by
        unfold posX
        have:=List.length_filter_le (fun i=>decide (((rowsM ds).getD i (0,0,0)).1=d.1)) (List.range m)
        rw [List.length_range] at this
        exact this
      rw [h.rows,List.length_map];omega
    rw [h.over,if_neg (by decide),h.owns,if_pos rfl,w64 (by omega) (by omega),hj]
    omega
  · rw [h,if_pos rfl];rfl
theorem stopC_any {j:Nat} (h:StageC x H ds k d rate (j+1)):Inv x.stop.s H∧Grow x.s x.stop.s∧x.over=false:=by
  rcases h with ⟨a,ha,hj,h⟩|⟨m,hm,hj,h⟩|⟨hj, -⟩
  · obtain ⟨s1,s2, -⟩:=stopC_0 h.inv h.over h.owns
    exact ⟨s1,s2,h.over⟩
  · have hI : Inv x.s (x.src :: x.p.wave :: x.p.marks :: x.p.spots :: x.p.table :: H) := h.inv.perm (by
      have e1:(x.p.wave::x.p.marks::x.p.spots::x.p.table::x.src::H)=[x.p.wave,x.p.marks,x.p.spots,x.p.table]++x.src::H:=rfl
      rw [e1];exact List.perm_middle)
    obtain ⟨s1,s2, -⟩:=stopC_T hI h.over h.owns
    exact ⟨s1,s2,h.over⟩
  · omega
def StageC.list (x:Ct) (H:List Int) (j:Nat):List Int:=if j=0 then x.root::H else if x.owns then x.p.wave::x.p.marks::x.p.spots::x.p.table::x.src::H else x.src::H
theorem StageC.list_len (x:Ct) (H:List Int) (j:Nat):(StageC.list x H j).length≤H.length+5:=by
  unfold StageC.list
  split
  · simp
  · split<;>simp
theorem StageC.list_mem (x:Ct) (H:List Int) (j:Nat) {k:Int} (hk:k∈H):k∈StageC.list x H j:=by
  unfold StageC.list
  split
  · simp [hk]
  · split<;>simp [hk]
theorem StageC.inv {j:Nat} (h:StageC x H ds k d rate j):Inv x.s (StageC.list x H j):=by
  unfold StageC.list
  rcases h with ⟨a,ha,hj,h⟩|⟨m,hm,hj,h⟩|⟨rfl,h,h3, -⟩
  · rw [if_neg (by omega),h.owns,if_neg (by decide)];exact h.inv
  · rw [if_neg (by omega),h.owns,if_pos rfl];exact h.inv
  · rw [if_pos rfl];exact h3
theorem stepC_work {j : Nat} (h : StageC x H ds k d rate (j + 1)) (hR : Right ds) (hk : ds[k]? = some d) (hH : H.length ≤ 900) (hroom : x.s.busyN + costR (rowsM ds).length ≤ x.s.size) :
    ∃y u,x.step=some (decide (j=0),0,y)∧y.s.work 1073741824=some u∧StageC {y with s:=u.2} H ds k d rate j∧u.2.wait=[]∧u.2.size=x.s.size∧
      StageC y H ds k d rate j∧(1≤j→y.src=x.src)∧Inv u.2 (StageC.list y H j)∧Stay x.s u.2 H∧ ∀q t,q∈StageC.list y H j→Rep x.s q t→Rep u.2 q t:=by
  obtain ⟨y,e1,g1,hy,hsrc, -⟩:=stepC_T h hR hk hH hroom
  have hx0:=h.inv
  have hI:=hy.inv
  obtain ⟨u,w1,w2,w3, -,w5⟩:=hI.work (by have:=StageC.list_len y H j;omega) 1073741824
  refine ⟨y,u,e1,w1,?_,w5 (by omega),w3.size.trans g1.size,hy,hsrc,w2,((g1.stay hx0).mono fun k hk _=>StageC.list_mem x H (j+1) hk).trans (w3.mono fun k hk _=>StageC.list_mem y H j hk),fun k t hk ht=>(ht.grow g1).held w3 hk⟩
  unfold StageC.list at w2 w3
  rcases hy with ⟨a,ha,hj,h⟩|⟨m,hm,hj,h⟩|⟨hj,o,h3,hv,he⟩
  · rw [if_neg (by omega),h.owns,if_neg (by decide)] at w2 w3
    exact .inl ⟨a,ha,hj,w2,h.vr.move (fun t ht=>ht.held w3 (by simp)) (fun q=>w2.pos (by simp) q),h.idn,h.len,h.rows,h.place,h.owns,h.over,h.root⟩
  · rw [if_neg (by omega),h.owns,if_pos rfl] at w2 w3
    exact .inr (.inl ⟨m,hm,hj,w2,h.w.stay w3 (by simp),h.bm.stay w3 (by simp),h.sp.stay w3 (by simp),h.t.stay w3 (by simp),h.idn,h.owns,h.over,h.root,h.rows⟩)
  · subst hj
    rw [if_pos rfl] at w2 w3
    exact .inr (.inr ⟨rfl,o,w2,hv.move (fun t ht=>ht.held w3 (by simp)) (fun q=>w2.pos (by simp) q),he⟩)
theorem stageC_busy {j B : Nat} (h : StageC x H ds k d rate j) (hw : x.s.wait = []) (hs : j ≠ 0 → Sz x.s B x.src) (h0 : j = 0 → Sz x.s B x.root) (hH : ∀ q ∈ H, Sz x.s B q) :
    8*x.s.busyN≤(H.length+1)*B+2048+56*(rowsM ds).length+16*ds.length:=by
  obtain ⟨T,hT1,hT2⟩:=sz_reps hH
  have e2:(H.length+1)*B=H.length*B+B:=Nat.succ_mul _ _
  rw [e2]
  rcases h with ⟨a,ha,hj,h⟩|⟨m,hm,hj,h⟩|⟨rfl, -,hI,hv, -⟩
  · obtain ⟨t0,r0,b0⟩:=hs (by omega)
    have:=h.inv.busy_le hw (T:=t0::T) ⟨r0,hT1⟩
    have e:sizes (t0::T)=t0.size+sizes T:=by simp [sizes]
    omega
  · obtain ⟨t0,r0,b0⟩:=hs (by omega)
    obtain ⟨t1,a1,b1⟩:=h.w
    obtain ⟨t2,a2,b2⟩:=h.bm
    obtain ⟨t3,a3,b3⟩:=h.sp
    obtain ⟨t4,a4,b4⟩:=h.t
    have:=h.inv.busy_le hw (T:=t1::t2::t3::t4::t0::T) ⟨a1,a2,a3,a4,r0,hT1⟩
    have e:sizes (t1::t2::t3::t4::t0::T)=t1.size+(t2.size+(t3.size+(t4.size+(t0.size+sizes T)))):=by simp [sizes]
    have c1:=b1.size;have c2:=b2.size;have c3:=b3.size;have c4:=b4.size
    have l1:=rowS_length rate (cutX d.1 m (rowsM ds))
    have l2:(rowW (cutX d.1 m (rowsM ds))).length=(cutX d.1 m (rowsM ds)).length:=by simp [rowW]
    have l3:(rowM rate (cutX d.1 m (rowsM ds))).length=(cutX d.1 m (rowsM ds)).length:=by simp [rowM]
    have l4:(docsM ds).length=ds.length:=by simp [docsM]
    have l5:=cutX_len d.1 m (rowsM ds)
    omega
  · obtain ⟨t0,r0,b0⟩:=h0 rfl
    have:=hI.busy_le hw (T:=t0::T) ⟨r0,hT1⟩
    have e:sizes (t0::T)=t0.size+sizes T:=by simp [sizes]
    omega
end
end
section
open Go.RowKit
theorem Right.era {ds:Docs} (hR:Right ds) (k:Nat):Right (ds.eraseIdx k):=by
  refine ⟨?_,fun y hy=>hR.id y ((List.eraseIdx_sublist ds k).subset hy),?_⟩
  · unfold txt;rw [era_map];exact right_era hR.right k
  · exact ((List.eraseIdx_sublist ds k).map _).nodup hR.nodup
section
variable {x : Ct} {H : List Int} {ds : Docs} {k : Nat} {d : Int × List UInt8} {rate : Int} {j : Nat}
theorem sorted_held {x:Ct} {H:List Int} (hI:Inv x.s (x.list++H)) (ho:x.over=false):Inv x.s (x.held++H)∧x.held.length≤x.list.length:=by
  have e:x.held=(sortI x.list).filter fun h=> !decide (h=0):=by unfold Ct.held;rw [ho,if_neg (by decide)]
  have hp:=sortI_perm' x.list
  rw [e]
  refine ⟨inv_filter _ (hI.perm (hp.symm.append_right H)),?_⟩
  refine Nat.le_trans (List.length_filter_le _ _) ?_
  rw [hp.length_eq];exact Nat.le_refl _
theorem heldC_inv (h:StageC x H ds k d rate (j+1)):Inv x.s (x.held++H)∧x.held.length≤5:=by
  rcases h with ⟨a,ha,hj,h⟩|⟨m,hm,hj,h⟩|⟨hj, -⟩
  · have e:x.list=[x.src]:=by unfold Ct.list;rw [h.owns,if_neg (by decide)]
    obtain ⟨a,b⟩:=sorted_held (x:=x) (H:=H) (by rw [e];exact h.inv) h.over
    rw [e] at b
    exact ⟨a,Nat.le_trans b (by simp)⟩
  · have e:x.list=[x.src,x.p.wave,x.p.marks,x.p.spots,x.p.table]:=by unfold Ct.list;rw [h.owns,if_pos rfl]
    have hI:Inv x.s (x.src::x.p.wave::x.p.marks::x.p.spots::x.p.table::H):=h.inv.perm (by
      have e1:(x.p.wave::x.p.marks::x.p.spots::x.p.table::x.src::H)=[x.p.wave,x.p.marks,x.p.spots,x.p.table]++x.src::H:=rfl
      rw [e1];exact List.perm_middle)
    obtain ⟨a,b⟩:=sorted_held (x:=x) (H:=H) (by rw [e];exact hI) h.over
    rw [e] at b
    exact ⟨a,b⟩
  · omega
theorem StageC.src_mem (h:StageC x H ds k d rate j) (hj:1≤j):x.src∈StageC.list x H j:=by
  unfold StageC.list
  rw [if_neg (by omega)]
  split<;>simp
structure LoopC (root:Int) (H:List Int) (ds:Docs) (k:Nat) (d:Int×List UInt8) (rate:Int) (j:Nat) (x:Ct):Prop where
  st:StageC x H ds k d rate j
  src:1≤j→x.src=root
  size:x.s.size=6000
  busy:8*x.s.busyN≤30000
  sz:1≤j∨root∈H→Sz x.s 6688 root
  vr:root∈H→VR x.s root ds rate
  hH:H=[]∨H=[root]
variable {root : Int}
theorem LoopC.len (h:LoopC root H ds k d rate j x):H.length≤1:=by rcases h.hH with e|e<;>rw [e]<;>simp
theorem LoopC.mem (h:LoopC root H ds k d rate j x) {q:Int} (hq:q∈H):q=root:=by
  rcases h.hH with e|e<;>rw [e] at hq<;>simp at hq
  exact hq
theorem LoopC.next (h : LoopC root H ds k d rate (j + 1) x) (hR : Right ds) (hk : ds[k]? = some d) (hrows : (rowsM ds).length ≤ 80) (hl : ds.length ≤ 10) :
    ∃y u,x.step=some (decide (j=0),0,y)∧y.s.work 1073741824=some u∧LoopC root H ds k d rate j {y with s:=u.2}∧StageC y H ds k d rate j∧u.2.wait=[]∧(root∈H→VR y.s root ds rate):=by
  have hlen:=h.len
  have hroom:x.s.busyN+costR (rowsM ds).length≤x.s.size:=by have:=h.busy;have:=h.size;unfold costR;omega
  obtain ⟨y',e1',g1, -, -, -⟩:=stepC_T h.st hR hk (by omega) hroom
  obtain ⟨y,u,e1,e2,e3,e4,e5,e6,e7,e8,e9,e10⟩:=stepC_work h.st hR hk (by omega) hroom
  have hy:y'=y:=by rw [e1] at e1';simp only [Option.some.injEq,Prod.mk.injEq] at e1';exact e1'.2.2.symm
  subst hy
  have hz:1≤j∨root∈H→Sz u.2 6688 root:=fun hq=>by
    obtain ⟨t,ht,hb⟩:=h.sz (.inl (by omega))
    refine ⟨t,e10 root t ?_ ht,hb⟩
    rcases hq with hq|hq
    · have:=e6.src_mem hq
      rw [e7 hq,h.src (by omega)] at this
      exact this
    · exact StageC.list_mem y' H j hq
  have hIy:=e6.inv
  refine ⟨y',u,e1,e2,⟨e3,fun q=>(e7 q).trans (h.src (by omega)),e5.trans h.size,?_,hz,fun hq=>(h.vr hq).move (fun t ht=>e10 root t (StageC.list_mem y' H j hq) ht) (fun q=>e8.pos (StageC.list_mem y' H j hq) q),h.hH⟩,e6,e4,fun hq=>(h.vr hq).move (fun t ht=>ht.grow g1) (fun q=>hIy.pos (StageC.list_mem y' H j hq) q)⟩
  have hz0:j=0→Sz u.2 6688 ({y' with s:=u.2}:Ct).root:=fun hj=>by
    rcases e3 with ⟨a,ha,hj',h3⟩|⟨m,hm,hj',h3⟩|⟨-, -, -,hv, -⟩
    · omega
    · omega
    · obtain ⟨t,ht,hb⟩:=hv.sz
      have hle:(rowsM (ds.eraseIdx k)).length≤(rowsM ds).length:=by
        rw [←rowsM_era hR hk];exact List.length_filter_le _ _
      have hle2:=(List.eraseIdx_sublist ds k).length_le
      exact ⟨t,ht,by omega⟩
  have hb:=stageC_busy (x:={y' with s:=u.2}) (B:=6688) e3 e4 (fun q=>by show Sz u.2 6688 y'.src;rw [e7 (by omega),h.src (by omega)];exact hz (.inl (by omega))) hz0 (fun q hq=>by
    have e:=h.mem hq
    rw [e]
    exact hz (.inr (e▸hq)))
  show 8*u.2.busyN≤30000
  replace hb:8*u.2.busyN≤_:=hb
  have:(H.length+1)*6688≤2*6688:=Nat.mul_le_mul_right _ (by omega)
  omega
theorem LoopC.done (h : LoopC root H ds k d rate 0 x) (hR : Right ds) (h1 : 1 ≤ rate) (h2 : rate ≤ 16) :
    x.over=true∧Inv x.s (x.root::H)∧VR x.s x.root (ds.eraseIdx k) rate∧vCheck x.s x.root rate (ds.eraseIdx k)=some true∧(x.root=0↔ds.eraseIdx k=[]):=by
  rcases h.st with ⟨a,ha,hj,h3⟩|⟨m,hm,hj,h3⟩|⟨-,a,b,c,e⟩
  · omega
  · omega
  · refine ⟨a,b,c,c.check_own b (hR.era k) h1 h2,fun h0=> ?_,e⟩
    rcases c.ex with ⟨-,q⟩|⟨t,ht,tw,tm,tsp,tt,rfl, -⟩
    · exact q
    · rw [h0] at ht;cases ht with
      | nd hh=>cases hh
theorem filter_era_aux: ∀(l:Docs) (k:Nat) (d:Int×List UInt8),(l.map (·.1)).Nodup→l[k]? =some d→(l.filter fun y=> !decide (y.1=d.1))=l.eraseIdx k
  | [],k,d,_,h=>by simp at h
  | y::l,0,d,hn,h=>by
    obtain rfl:y=d:=by simpa using h
    rw [List.filter_cons_of_neg (by simp),List.eraseIdx_cons_zero]
    refine List.filter_eq_self.2 fun z hz=> ?_
    rw [List.map_cons,List.nodup_cons] at hn
    have:z.1≠y.1:=fun e=>hn.1 (e▸List.mem_map_of_mem (f:=(·.1)) hz)
    simpa using this
  | y::l,k+1,d,hn,h=>by
    have h':l[k]? =some d:=by simpa using h
    rw [List.map_cons,List.nodup_cons] at hn
    have hm:d∈l:=List.mem_of_getElem? h'
    have:y.1≠d.1:=fun e=>hn.1 (e▸List.mem_map_of_mem (f:=(·.1)) hm)
    rw [List.filter_cons_of_pos (by simpa using this),List.eraseIdx_cons_succ,filter_era_aux l k d hn.2 h']
def lessD (ds:Docs) (id:Int):Docs:=ds.filter fun y=> !decide (y.1=id)
theorem lessD_era {ds:Docs} (hR:Right ds) {k:Nat} {d:Int×List UInt8} (hk:ds[k]? =some d):lessD ds d.1=ds.eraseIdx k:=filter_era_aux ds k d hR.nodup hk
theorem newC_in {s : Ar} {H : List Int} {root : Int} {ds : Docs} {k : Nat} {d : Int × List UInt8} {rate : Int} (hI : Inv s H) (hv : VR s root ds rate) (hR : Right ds) (hk : ds[k]? = some d) :
    ∃r,lAll s (vOf s root).table=some (docsM ds)∧(docsM ds).length≤50000∧vIs s root=true∧placeIn d.1 (docsM ds) 0=((k:Int),true)∧lGet s (vOf s root).table (k:Int)=some r∧r.1.2=(d.2.length:Int):=by
  have hlen:=hR.len
  have hdl:(docsM ds).length=ds.length:=by simp [docsM]
  obtain ⟨-, -, -,hT,hvi⟩:=hv.parts hI (by omega)
  have hat:(docsM ds)[k]? =some (d.1,(d.2.length:Int)):=by unfold docsM;rw [List.getElem?_map,hk];rfl
  have hkl:k<(docsM ds).length:=(List.getElem?_eq_some_iff.1 hat).1
  have hnd:((docsM ds).map (·.1)).Nodup:=by
    have:(docsM ds).map (·.1)=ds.map (·.1):=by unfold docsM;rw [List.map_map];rfl
    rw [this];exact hR.nodup
  refine ⟨_,hT.all hI,by omega,hvi,?_,by rw [hT.get hI,if_neg (by omega)],?_⟩
  · have:=placeIn_at (docsM ds) 0 hnd hat
    rw [Int.zero_add] at this
    exact this
  · show ((docsM ds).getD (k:Int).toNat (0,0)).2=_
    rw [Int.toNat_natCast,List.getD_eq_getElem?_getD,hat];rfl
theorem LoopC.held (h:LoopC root [] ds k d rate (j+1) x):Inv x.s x.held∧x.held.length≤5∧(root≠0→1≤x.s.cnt root):=by
  obtain ⟨a,b⟩:=heldC_inv h.st
  rw [List.append_nil] at a
  refine ⟨a,b,fun h0=> ?_⟩
  have hI:=h.st.inv
  have hm:=h.st.src_mem (by omega)
  rw [h.src (by omega)] at hm
  have:=hI.cpos (hI.held root hm h0) (hI.pos hm h0)
  omega
theorem StageC.ok (h:StageC x H ds k d rate (j+1)) (hR:Right ds) (hk:ds[k]? =some d):CtOk x:=by
  have h40:=(right_len hR.right).2 k
  rw [getD_at (txt_at hk)] at h40
  have hlen:=hR.len
  rcases h with ⟨a,ha,hj,h⟩|⟨m,hm,hj,h⟩|⟨hj, -⟩
  · exact ⟨by rw [h.rows,List.length_map,foundN_len];omega,fun q=>by rw [h.owns] at q;cases q⟩
  · have hX:(rowsM ds).length≤500:=rowsM_small ds
    refine ⟨?_,fun _ l hl=> ?_⟩
    · have h1 : (posX d.1 m (rowsM ds)).length ≤ m := by
        unfold posX
        have:=List.length_filter_le (fun i=>decide (((rowsM ds).getD i (0,0,0)).1=d.1)) (List.range m)
        rw [List.length_range] at this
        exact this
      rw [h.rows,List.length_map];omega
    · have hdl:(docsM ds).length=ds.length:=by simp [docsM]
      have hlt:LR x.s x.p.table (docsM ds):=⟨h.t,fun e=>h.inv.pos (by simp) e,by omega⟩
      rw [hlt.all h.inv] at hl
      obtain rfl:=Option.some.inj hl
      omega
  · omega
theorem runC (hR : Right ds) (hk : ds[k]? = some d) (hH : H.length ≤ 900) : ∀ (n : Nat) (x : Ct), StageC x H ds k d rate n → x.s.busyN + n * costR (rowsM ds).length ≤ x.s.size →
    ∃f:Nat→Ct,f 0=x∧(∀i,i<n→CtOk (f i)∧(f i).step=some (decide (i+1=n),0,f (i+1)))∧StageC (f n) H ds k d rate 0
  | 0,x,h,_=>⟨fun _=>x,rfl,fun i hi=>by omega,h⟩
  | n+1,x,h,hb=>by
    have hm:(n+1)*costR (rowsM ds).length=n*costR (rowsM ds).length+costR (rowsM ds).length:=Nat.succ_mul _ _
    obtain ⟨y,e1,g1,hy, -,c1⟩:=stepC_T h hR hk hH (by omega)
    obtain ⟨f,f0,f1,f2⟩:=runC hR hk hH n y hy (by rw [g1.size];omega)
    refine ⟨fun i=>match i with|0=>x|i+1=>f i,rfl,fun i hi=> ?_,f2⟩
    cases i with
    | zero=>
      refine ⟨h.ok hR hk,?_⟩
      show x.step=some (_,0,f 0)
      rw [f0,e1]
      congr 2
      rw [decide_eq_decide];omega
    | succ i=>
      obtain ⟨a,b⟩:=f1 i (by omega)
      refine ⟨a,?_⟩
      show (f i).step=some (_,0,f (i+1))
      rw [b]
      congr 2
      rw [decide_eq_decide];omega
end
end
section
open Go.RowKit
def docCells (ds:List (Int×List UInt8)):List Value:=ds.flatMap fun d=>[.int .i64 d.1,strOf d.2]
theorem docCells_append (a b:List (Int×List UInt8)):docCells (a++b)=docCells a++docCells b:=by unfold docCells;rw [List.flatMap_append]
theorem docCells_at: ∀{ds:List (Int×List UInt8)} {i:Nat} {d:Int×List UInt8},ds[i]? =some d→(docCells ds)[i*2]? =some (.int .i64 d.1)∧(docCells ds)[i*2+1]? =some (strOf d.2)
  | x::ds,0,d,h=>by
    obtain rfl:x=d:=by simpa using h
    exact ⟨rfl,rfl⟩
  | x::ds,i+1,d,h=>by
    have:=docCells_at (ds:=ds) (i:=i) (d:=d) (by simpa using h)
    have e:docCells (x::ds)= .int .i64 x.1::strOf x.2::docCells ds:=rfl
    rw [e,show (i+1)*2=i*2+1+1 by omega]
    simpa using this
theorem rd2_own {W:World} {base:Nat} {e:TypeId} {v:Value} {ds:List (Int×List UInt8)} (h:W.ownsRow base e 2 v ds.length (docCells ds)):Rd2 W v ds:=by
  rcases h.2 with ⟨rfl,h0⟩|⟨g,cap,cur,rfl,hg,hc,hcap,hm,hs,hx⟩
  · refine ⟨none,0,?_,fun h=>by omega⟩
    rw [h0]
  · refine ⟨_,cap,rfl,fun hn=>⟨_,rfl,lt_of hc,fun i d hd=> ?_⟩⟩
    have hi:=(List.getElem?_eq_some_iff.1 hd).1
    obtain ⟨c1,c2⟩:=docCells_at hd
    refine ⟨by rw [block_of_add];exact lt_of hc,?_,?_⟩
    · rw [add_zero_off,h.cellAt (i*2) (by omega),c1]
    · have:=h.cellAt (i*2+1) (by omega)
      rw [add_zero_off]
      exact this.trans c2
theorem docCells_length: ∀ds:List (Int×List UInt8),(docCells ds).length=ds.length*2
  | []=>rfl
  | d::ds=>by
    have e:docCells (d::ds)= .int .i64 d.1::strOf d.2::docCells ds:=rfl
    rw [e,List.length_cons,List.length_cons,docCells_length ds,List.length_cons];omega
theorem add_add (q:Addr) (a b:Nat):(q.add a).add b=q.add (a+b):=by
  obtain ⟨bb,oo,pp⟩:=q
  unfold Addr.add
  rcases Nat.eq_zero_or_pos a with rfl|h1
  · simp
  · rcases Nat.eq_zero_or_pos b with rfl|h2
    · simp
    · rw [if_neg (by omega),if_neg (by omega),if_neg (by omega)]
      cases pp<;>simp<;>omega
structure Keeps (base:Nat) (L:List (Nat×Obj)) (v:Value) (ds:List (Int×List UInt8)):Prop where
  own: ∀W:World,(∀x∈L,W.heap[x.1]? =some x.2)→W.ownsRow base 34 2 v ds.length (docCells ds)
  blk: ∀g,v.ownBlock=some g→ ∃o,(g,o)∈L
theorem Keeps.nil (base:Nat):Keeps base [] (.slice none 0 0) []:=⟨fun _ _=>World.ownsRow_nil _ _ _ _,fun g h=>by cases h⟩
theorem Keeps.row {w0 W:World} {ap:Value} {s:Ar} {L:List (Nat×Obj)} {base:Nat} {v:Value} {ds:List (Int×List UInt8)} (h:Keeps base L v ds) (hS:St w0 W ap s L):W.ownsRow base 34 2 v ds.length (docCells ds):=by
  obtain ⟨O, -, -,hL⟩:=hS.ex
  exact h.own W fun x hx=>(hL x hx).1
end
section
open Go.RowKit Go.Sort
attribute [local go_sem ↓] Go.wp_at_zero Go.wp_at_succ
attribute [local go_sem] str_len
def Gr (w w':World):Prop:= ∃q os,w'=grow (w.drewN q) os
theorem Gr.refl (w:World):Gr w w:=⟨0,#[],(grow_empty _).symm⟩
theorem Gr.trans {a b c:World} (h1:Gr a b) (h2:Gr b c):Gr a c:=by
  obtain ⟨q,os,rfl⟩:=h1
  obtain ⟨q',os',rfl⟩:=h2
  exact ⟨q+q',os++os',by show grow (grow ((a.drewN q).drewN q') os) os'=_;rw [grow_grow,World.drewN_drewN]⟩
theorem Gr.alloc (w:World) (o:Obj):Gr w (w.alloc o):=⟨0,#[o],alloc_eq_grow w o⟩
theorem Gr.drewN (w:World) (q:Nat):Gr w (w.drewN q):=⟨q,#[],(grow_empty _).symm⟩
theorem Gr.below {w w':World} (h:Gr w w'):Below w.heap.size w w':=by
  obtain ⟨q,os,rfl⟩:=h
  exact ⟨rfl,rfl,rfl,by simp [grow,World.drewN],fun k hk=>by simp [grow,World.drewN,Array.getElem?_append,hk]⟩
theorem is_calls (v : Value) (ts : List (List UInt8)) (d a : Nat) (t : List UInt8) (ht : ts[d]? = some t) (ha : a ≤ t.length) (w : World) (h : Rk w 1 v ts.length (ts.map strOf)) :
    Calls Tryz.prog 275 #[v, .agg #[.int .i64 (d:Int), .int .i64 (a:Int)]] w fun e w'=>e= .returned (.bool true)∧Gr w w':=by
  obtain ⟨hd, -⟩:=List.getElem?_eq_some_iff.1 ht
  obtain ⟨h1,A,cap,rfl,h2⟩:=h
  obtain ⟨g,cs,T,rfl,kg,hcs⟩:=h2 (by omega)
  have hci:cs[d]? =some (strOf t):=by rw [hcs d (by omega),List.getElem?_map,ht];rfl
  have n1:(d:Int)<(ts.length:Int):=by omega
  have n2:(a:Int)≤(t.length:Int):=by omega
  clear h1 h2 hcs ht
  go_enter Tryz.func275,Tryz.ntmps275
  have c_kg:=f3 kg;have l_kgw:=lt_of kg
  go_wp2_with fail
  refine wp_gen fun V hV=> ?_
  have hG:Gr w V:=by rw [hV];exact Gr.alloc w _
  have kr:V.heap[w.heap.size]? =some (.cells #[.int .i64 (d:Int), .int .i64 (a:Int)] 136 (0,0)):=by rw [hV];exact blk_new _ _ _ rfl
  replace kg:=keep_blk hG.below kg
  clear hV c_kg
  have c_kg:=f3 kg;have l_kgV:=lt_of kg
  have c_kr:=f3 kr;have l_krV:=lt_of kr
  go_quiet (fail)
  go_wp2_with fail
  go_ret
  exact ⟨rfl,hG.trans (Gr.drewN _ _)⟩
theorem rless_calls (v : Value) (ts : List (List UInt8)) (d1 a1 d2 a2 : Nat) (t1 t2 : List UInt8) (ht1 : ts[d1]? = some t1) (ha1 : a1 ≤ t1.length) (ht2 : ts[d2]? = some t2) (ha2 : a2 ≤ t2.length) (hl1 : t1.length ≤ 50000) (r : Bool) (hr : lessL (decide (d1 < d2)) (t1.drop a1) (t2.drop a2) = r) (w : World) (h : Rk w 1 v ts.length (ts.map strOf)) :
    Calls Tryz.prog 223 #[v, .agg #[.int .i64 (d1:Int), .int .i64 (a1:Int)], .agg #[.int .i64 (d2:Int), .int .i64 (a2:Int)]] w fun e w'=>e= .returned (.bool r)∧Gr w w':=by
  obtain ⟨hd1, -⟩:=List.getElem?_eq_some_iff.1 ht1
  obtain ⟨hd2, -⟩:=List.getElem?_eq_some_iff.1 ht2
  obtain ⟨h1,A,cap,rfl,h2⟩:=h
  obtain ⟨g,cs,T,rfl,kg,hcs⟩:=h2 (by omega)
  have hc1:cs[d1]? =some (strOf t1):=by rw [hcs d1 (by omega),List.getElem?_map,ht1];rfl
  have hc2:cs[d2]? =some (strOf t2):=by rw [hcs d2 (by omega),List.getElem?_map,ht2];rfl
  have n1:(d1:Int)<(ts.length:Int):=by omega
  have n2:(d2:Int)<(ts.length:Int):=by omega
  have f1:=str_from t1 a1 ha1
  have f2:=str_from t2 a2 ha2
  have HR:=Lib.hid hr;clear hr
  have Hcs:=Lib.hid hcs;have H1:=Lib.hid h1;have HT1:=Lib.hid ht1;have HT2:=Lib.hid ht2;have HA1:=Lib.hid ha1;have HA2:=Lib.hid ha2
  clear h1 h2 hcs ht1 ht2 hd1 hd2 ha1 ha2
  obtain ⟨s,hs⟩: ∃s,t1.drop a1=s:=⟨_,rfl⟩
  obtain ⟨t,ht⟩: ∃t,t2.drop a2=t:=⟨_,rfl⟩
  have hs0:s.length≤50000:=by rw [←hs,List.length_drop];omega
  rw [hs] at f1 HR
  rw [ht] at f2 HR
  clear hs ht
  go_enter Tryz.func223,Tryz.ntmps223
  have c_kg:=f3 kg;have l_kgw:=lt_of kg
  go_wp2_with fail
  refine wp_scope_ghost 0 (fun n a' wr=> ∃(i:Nat),(i+n=s.length+1∧i≤s.length∧i≤t.length∧Hid (lessL (decide (d1<d2)) (s.drop i) (t.drop i)=r)∧wr.heap[w.heap.size]? =some (.cells #[.int .i64 (d1:Int), .int .i64 (a1:Int)] 136 (0,0))∧wr.heap[w.heap.size+1]? =some (.cells #[.int .i64 (d2:Int), .int .i64 (a2:Int)] 136 (0,0))∧Gr w wr)∧ ∃u0 u1 u2 u3 u6 u10 u11 u12 u13 u14 u15 u16 u17 u18 u19 u20 u21 u22 u23 u24 u25 u26 u27 u28 u29 u30 u31 u32 u33 u34 u35 u36 u37 u38 u39 u40 u41 u42 u43 u44 u45 u46 u47 u48 u49 u50 u51 u52 u53 u54 u55 u56 u57 u58 u59 u60 u61 u62 u63 u64 u65 u66 u67 u68 u69 u70 u71 u72 u73 u74 u75 u76 u77 u78:Value,a'={tmps:= #[u0,u1,u2,u3,(.pointer (some ⟨w.heap.size,0,none⟩):Value),(.pointer (some ⟨w.heap.size+1,0,none⟩):Value),u6,(strOf s:Value),(strOf t:Value),(.int .i64 (i:Int):Value),u10,u11,u12,u13,u14,u15,u16,u17,u18,u19,u20,u21,u22,u23,u24,u25,u26,u27,u28,u29,u30,u31,u32,u33,u34,u35,u36,u37,u38,u39,u40,u41,u42,u43,u44,u45,u46,u47,u48,u49,u50,u51,u52,u53,u54,u55,u56,u57,u58,u59,u60,u61,u62,u63,u64,u65,u66,u67,u68,u69,u70,u71,u72,u73,u74,u75,u76,u77,u78],defers:=[]}) (by rfl) ?first ?pass
  case first=>
    intro hrest
    go_wp2_with fail
    refine calls_gen fun V hV=> ?_
    have hG:Gr w V:=by rw [hV];exact (Gr.alloc _ _).trans (Gr.alloc _ _)
    have ka:V.heap[w.heap.size]? =some (.cells #[.int .i64 (d1:Int), .int .i64 (a1:Int)] 136 (0,0)):=by rw [hV];exact keep_blk (Gr.alloc _ _).below (blk_new _ _ _ rfl)
    have kb:V.heap[w.heap.size+1]? =some (.cells #[.int .i64 (d2:Int), .int .i64 (a2:Int)] 136 (0,0)):=by rw [hV];exact blk_new _ _ _ (siz_alloc _ _).symm
    replace kg:=keep_blk hG.below kg
    clear hV c_kg
    have c_kg:=f3 kg;have l_kgV:=lt_of kg
    have c_ka:=f3 ka;have l_kaV:=lt_of ka
    have c_kb:=f3 kb;have l_kbV:=lt_of kb
    refine (is_calls _ ts d1 a1 t1 HT1.out HA1.out _ ⟨H1.out,_,_,rfl,fun _=>⟨g,cs,T,rfl,kg,Hcs.out⟩⟩).mono ?_
    rintro e1 W1 ⟨rfl,hG1⟩
    replace kg:=keep_blk hG1.below kg;replace ka:=keep_blk hG1.below ka;replace kb:=keep_blk hG1.below kb
    replace hG:=hG.trans hG1
    clear hG1 c_kg c_ka c_kb
    have c_kg:=f3 kg;have l_kgW1:=lt_of kg
    have c_ka:=f3 ka;have l_kaW1:=lt_of ka
    have c_kb:=f3 kb;have l_kbW1:=lt_of kb
    go_wp2_with fail
    refine (is_calls _ ts d2 a2 t2 HT2.out HA2.out _ ⟨H1.out,_,_,rfl,fun _=>⟨g,cs,T,rfl,kg,Hcs.out⟩⟩).mono ?_
    rintro e2 W2 ⟨rfl,hG2⟩
    replace kg:=keep_blk hG2.below kg;replace ka:=keep_blk hG2.below ka;replace kb:=keep_blk hG2.below kb
    replace hG:=hG.trans hG2
    clear hG2 c_kg c_ka c_kb
    have c_kg:=f3 kg;have l_kgW2:=lt_of kg
    have c_ka:=f3 ka;have l_kaW2:=lt_of ka
    have c_kb:=f3 kb;have l_kbW2:=lt_of kb
    go_wp2_with fail
    go_quiet (fail)
    clear f1 f2 hc1 hc2 n1 n2 Hcs H1 HT1 HT2 HA1 HA2
    go_wp2_with fail
    go_step3
    go_step
    go_step
    refine hrest (s.length+1) _ _ ⟨0,⟨by omega,by omega,by omega,HR,ka,kb,hG.trans (Gr.drewN _ _)⟩,?_⟩
    exact ⟨_,_,_,_,_,_,_,_,_,_,_,_,_,_,_,_,_,_,_,_,_,_,_,_,_,_,_,_,_,_,_,_,_,_,_,_,_,_,_,_,_,_,_,_,_,_,_,_,_,_,_,_,_,_,_,_,_,_,_,_,_,_,_,_,_,_,_,_,_,_,_,_,_,_,rfl⟩
  case pass=>
    rintro n a' wr ⟨i,⟨hk,hi1,hi2,Hl,ka,kb,hG⟩,u0,u1,u2,u3,u6,u10,u11,u12,u13,u14,u15,u16,u17,u18,u19,u20,u21,u22,u23,u24,u25,u26,u27,u28,u29,u30,u31,u32,u33,u34,u35,u36,u37,u38,u39,u40,u41,u42,u43,u44,u45,u46,u47,u48,u49,u50,u51,u52,u53,u54,u55,u56,u57,u58,u59,u60,u61,u62,u63,u64,u65,u66,u67,u68,u69,u70,u71,u72,u73,u74,u75,u76,u77,u78,rfl⟩ J hJ
    clear f1 f2 hc1 hc2 n1 n2 Hcs H1 HT1 HT2 HA1 HA2 HR kg c_kg
    have c_ka:=f3 ka;have l_kawr:=lt_of ka
    have c_kb:=f3 kb;have l_kbwr:=lt_of kb
    by_cases c1:i=s.length
    · have e1:s.drop i=[]:=by rw [c1];simp
      by_cases c2:i=t.length
      · have e2:t.drop i=[]:=by rw [c2];simp
        have hl:=Hl.out
        rw [e1,e2] at hl
        unfold lessL at hl
        have hL:=Lib.hid hl
        have q1:((i:Int)==(s.length:Int))=true:=by rw [c1];exact beq_self_eq_true _
        have q2:((i:Int)==(t.length:Int))=true:=by rw [c2];exact beq_self_eq_true _
        clear hl Hl e1 e2 hk hi1 hi2 c1 c2
        go_wp2_with fail
        simp only [Exit.jump]
        go_ret
        exact ⟨by rw [←hL.out];first|rfl|simp,hG⟩
      · obtain ⟨y,hy⟩:=at_some (show i<t.length by omega)
        have e2:=drop_at hy
        clear hy
        have hl:=Hl.out
        rw [e1,e2] at hl
        unfold lessL at hl
        have hL:=Lib.hid hl
        have q1:((i:Int)==(s.length:Int))=true:=by rw [c1];exact beq_self_eq_true _
        have q2:((i:Int)==(t.length:Int))=false:=by rw [beq_eq_false_iff_ne];omega
        clear hl Hl e1 e2 hk hi1 hi2 c1 c2
        go_wp2_with fail
        simp only [Exit.jump]
        go_ret
        exact ⟨by rw [←hL.out];rfl,hG⟩
    · have q1:((i:Int)==(s.length:Int))=false:=by rw [beq_eq_false_iff_ne];omega
      obtain ⟨x,hx⟩:=at_some (show i<s.length by omega)
      have e1:=drop_at hx
      by_cases c2:i=t.length
      · have e2:t.drop i=[]:=by rw [c2];simp
        have hl:=Hl.out
        rw [e1,e2] at hl
        unfold lessL at hl
        have hL:=Lib.hid hl
        have q2:((i:Int)==(t.length:Int))=true:=by rw [c2];exact beq_self_eq_true _
        clear hl Hl e1 e2 hk hi1 hi2 c1 c2 hx
        go_wp2_with fail
        simp only [Exit.jump]
        go_ret
        exact ⟨by rw [←hL.out];rfl,hG⟩
      · have q2:((i:Int)==(t.length:Int))=false:=by rw [beq_eq_false_iff_ne];omega
        obtain ⟨y,hy⟩:=at_some (show i<t.length by omega)
        have e2:=drop_at hy
        have g1:=str_index s i x hx
        have g2:=str_index t i y hy
        have hl:=Hl.out
        rw [e1,e2] at hl
        unfold lessL at hl
        have hi1':i<s.length:=by omega
        have hi2':i<t.length:=by omega
        clear Hl e1 e2 hx hy c1 c2
        by_cases c3:x=y
        · rw [if_pos c3] at hl
          subst c3
          have hL:=Lib.hid hl
          have Hk:=Lib.hid hk;have Hi:=Lib.hid (And.intro hi1' hi2')
          have e3:wrap64 ((i:Int)+1)=((i+1:Nat):Int):=(IntWalk.wrap64_in _ (by omega)).trans (by omega)
          clear hl hk hi1 hi2 hi1' hi2'
          go_wp2_with fail
          go_quiet (fail)
          go_wp2_with fail
          rw [e3]
          go_step3
          refine ⟨rfl,hJ _ _ ⟨n - 1,by have:=Hk.out;have:=Hi.out;omega,i+1,⟨by have:=Hk.out;have:=Hi.out;omega,by have:=Hi.out;omega,by have:=Hi.out;omega,hL,ka,kb,hG.trans (Gr.drewN _ _)⟩,?_⟩⟩
          exact ⟨_,_,_,_,_,_,_,_,_,_,_,_,_,_,_,_,_,_,_,_,_,_,_,_,_,_,_,_,_,_,_,_,_,_,_,_,_,_,_,_,_,_,_,_,_,_,_,_,_,_,_,_,_,_,_,_,_,_,_,_,_,_,_,_,_,_,_,_,_,_,_,_,_,_,rfl⟩
        · rw [if_neg c3] at hl
          have hL:=Lib.hid hl
          have q3:((x.toNat:Int)==(y.toNat:Int))=false:=by
            rw [beq_eq_false_iff_ne];intro h;exact c3 (UInt8.toNat_inj.1 (by omega))
          clear hl hk hi1 hi2 hi1' hi2' c3
          go_wp2_with fail
          go_quiet (fail)
          go_wp2_with fail
          refine wp_gen fun V6 hV6=> ?_
          have hG6:Gr w V6:=by rw [hV6];exact hG.trans (Gr.drewN _ _)
          have ka6:=(congrArg (fun v:World=>v.heap[w.heap.size]?) hV6).trans ka
          have kb6:=(congrArg (fun v:World=>v.heap[w.heap.size+1]?) hV6).trans kb
          clear hV6 c_ka c_kb
          have c_ka6:=f3 ka6;have l_ka6V6:=lt_of ka6
          have c_kb6:=f3 kb6;have l_kb6V6:=lt_of kb6
          go_quiet (fail)
          go_wp2_with fail
          simp only [Exit.jump]
          go_ret
          exact ⟨by rw [←hL.out];first|rfl|simp,hG6.trans (Gr.drewN _ _)⟩
theorem cmpR_calls (v : Value) (ts : List (List UInt8)) (h5 : ∀ t, t ∈ ts → t.length ≤ 50000) (x y : RowT ts) (bl : Nat) (w : World) (kl : w.heap[bl]? = some (.cells #[v] 75 (0, 0))) (h : Rk w 1 v ts.length (ts.map strOf)) :
    Calls Tryz.prog 222 #[.agg #[.int .i64 (x.1.1:Int), .int .i64 (x.1.2:Int)], .agg #[.int .i64 (y.1.1:Int), .int .i64 (y.1.2:Int)], .pointer (some ⟨bl,0,none⟩)] w fun e w'=>e= .returned (.int .i64 (cmpR ts x y))∧Gr w w':=by
  obtain ⟨x,t1,ht1,ha1⟩:=x
  obtain ⟨y,t2,ht2,ha2⟩:=y
  dsimp only
  have hr:lessL (decide (x.1<y.1)) (t1.drop x.2) (t2.drop y.2)=refLess ts x y:=by unfold refLess;rw [getD_at ht1,getD_at ht2]
  have h5':=h5 _ (List.mem_of_getElem? ht1)
  unfold cmpR
  dsimp only
  generalize refLess ts x y=r at hr⊢
  have HK:=Lib.hid h;have Hr:=Lib.hid hr;have HT1:=Lib.hid ht1;have HT2:=Lib.hid ht2;have HA1:=Lib.hid ha1;have HA2:=Lib.hid ha2
  clear h hr ht1 ht2 ha1 ha2 h5
  obtain ⟨d1,a1⟩:=x
  obtain ⟨d2,a2⟩:=y
  dsimp only at HT1 HT2 HA1 HA2 Hr⊢
  go_enter Tryz.func222,Tryz.ntmps222
  have c_kl:=f3 kl;have l_klw:=lt_of kl
  go_wp2_with fail
  refine calls_gen fun V hV=> ?_
  have hG:Gr w V:=by rw [hV];exact (Gr.alloc _ _).trans (Gr.alloc _ _)
  clear hV
  refine (rless_calls v ts d1 a1 d2 a2 t1 t2 HT1.out HA1.out HT2.out HA2.out h5' r Hr.out _ (HK.out.below hG.below)).mono ?_
  rintro e1 W1 ⟨rfl,hG1⟩
  cases r with
  | true=>
    go_wp2_with fail
    go_ret
    exact ⟨rfl,hG.trans hG1⟩
  | false=>
    go_wp2_with fail
    go_ret
    exact ⟨rfl,hG.trans hG1⟩
end
section
open Go.RowKit Go.Sort Go.Shelf
attribute [local go_sem ↓] Go.wp_at_zero Go.wp_at_succ
attribute [local go_sem] str_len
theorem sortK_below {α:Type} [Inhabited α] (enc:α→List Value) (k:Nat) {W:World} {base g m:Nat} (d:Array α) (os:Array Obj) (hb:base≤g) (hW:base≤W.heap.size):Below base W (sortWorldK enc k W g 0 m d os):=by
  unfold sortWorldK putRowK putRow mapBlock grow Sort.ahead
  refine ⟨rfl,rfl,rfl,by simp,fun n hn=> ?_⟩
  show (W.heap.modify g _++os)[n]? =W.heap[n]?
  rw [Array.getElem?_append_left (by rw [Array.size_modify];omega),Array.getElem?_modify,if_neg (by omega)]
theorem sortK_cells {α : Type} [Inhabited α] (enc : α → List Value) (k : Nat) {W : World} {g m : Nat} {cur : Array Value} {T : TypeId} (hg : W.heap[g]? = some (.cells cur T (0, 0))) (d d' : Array α) (os : Array Obj) (hH : HoldsK enc k W g 0 d) (hs : d'.size = d.size) :
    ∃cs,(sortWorldK enc k W g 0 m d' os).heap[g]? =some (.cells cs T (0,0))∧ ∀j,j<d'.size*k→cs[j]? =some ((flatK enc k d')[j]!):=by
  have hlt:=lt_of hg
  have h0:(sortWorldK enc k W g 0 m d' os).heap[g]? =some (.cells (putCells id 0 (flatK enc k d') cur) T (0,0)):=by
    unfold sortWorldK putRowK putRow mapBlock grow Sort.ahead
    show (W.heap.modify g _++os)[g]? =_
    rw [Array.getElem?_append_left (by rw [Array.size_modify];exact hlt),Array.getElem?_modify,if_pos rfl,hg];rfl
  refine ⟨_,h0,fun j hj=> ?_⟩
  have hc:=(hH j (by rw [size_flatK,←hs];exact hj)).1
  rw [Nat.zero_add,cells_of hg] at hc
  have hsz:j<cur.size:=by
    rcases Nat.lt_or_ge j cur.size with h|h
    · exact h
    · rw [Array.getElem?_eq_none h] at hc;cases hc
  unfold putCells
  rw [Array.getElem?_mapIdx,Array.getElem?_eq_getElem hsz]
  simp [size_flatK,hj]
def encR {ts:List (List UInt8)} (x:RowT ts):List Value:=[.int .i64 (x.1.1:Int), .int .i64 (x.1.2:Int)]
theorem flat_rows {ts:List (List UInt8)} (d:List (RowT ts)) [Inhabited (RowT ts)] (j:Nat) (hj:j<d.length*2):some ((flatK (encR (ts:=ts)) 2 d.toArray)[j]!)=(rowCells (d.map (·.1)))[j]? :=by
  rw [get_flatK _ _ _ _ (by simpa using hj)]
  have hi:j/2<d.length:=by omega
  have hx:(d.map (·.1))[j/2]? =some (d[j/2]).1:=by rw [List.getElem?_map,List.getElem?_eq_getElem hi];rfl
  have hd:d.toArray[j/2]! =d[j/2]:=by simp [hi]
  rw [hd]
  obtain ⟨a,b⟩:=rowCells_at hx
  rcases Nat.mod_two_eq_zero_or_one j with h|h
  · rw [h,show (encR d[j/2])[0]! = .int .i64 ((d[j/2]).1.1:Int) from rfl,←a];congr 1;omega
  · rw [h,show (encR d[j/2])[1]! = .int .i64 ((d[j/2]).1.2:Int) from rfl,←b];congr 1;omega
theorem swoR (ts:List (List UInt8)):SWO (ltOf (cmpR ts)) where
  irrefl x:=by unfold ltOf;rw [lt_cmpR];exact rl_irr ts x.1
  trans x y z h1 h2:=by unfold ltOf at*;rw [lt_cmpR] at*;exact rl_trans h1 h2
  ntrans x y z h1 h2:=by
    unfold ltOf at*;rw [lt_cmpR] at*
    cases h:refLess ts x.1 z.1 with
    | false=>rfl
    | true=>
      cases h3:refLess ts y.1 x.1 with
      | true=>rw [rl_trans h3 h] at h2;cases h2
      | false=>
        have e:=rl_total x.2 y.2 h1 h3
        rw [e,h2] at h;cases h
theorem totR (ts:List (List UInt8)) (x y:RowT ts) (h1:ltOf (cmpR ts) x y=false) (h2:ltOf (cmpR ts) y x=false):x=y:=by
  unfold ltOf at*;rw [lt_cmpR] at*
  exact Subtype.ext (rl_total x.2 y.2 h1 h2)
theorem merge_all (ts : List (List UInt8)) (h : ∀ x, x ∈ upto ts ts.length 0 → RowIn ts x) :
    ((rowsT ts (upto ts ts.length 0) h).mergeSort fun x y=> !ltOf (cmpR ts) y x).map (·.1)=refFold ts (upto ts ts.length 0):=by
  have hp:=List.mergeSort_perm (rowsT ts (upto ts ts.length 0) h) fun x y=> !ltOf (cmpR ts) y x
  have hs:=List.pairwise_mergeSort (le:=fun x y=> !ltOf (cmpR ts) y x) (fun a b c h1 h2=>by
    simp only [Bool.not_eq_true',Bool.not_eq_eq_eq_not,Bool.not_true] at*
    exact (swoR ts).ntrans c b a h2 h1) (fun a b=>by
    cases h1:ltOf (cmpR ts) b a with
    | false=>rfl
    | true=>
      have:ltOf (cmpR ts) a b=false:=by unfold ltOf at*;rw [lt_cmpR] at*;exact rl_asymm h1
      rw [this];rfl) (rowsT ts (upto ts ts.length 0) h)
  generalize (rowsT ts (upto ts ts.length 0) h).mergeSort (fun x y=> !ltOf (cmpR ts) y x)=M at hp hs
  have hpm:=hp.map (·.1)
  rw [rowsT_val] at hpm
  have hn:(M.map (·.1)).Nodup:=hpm.nodup_iff.2 (upto_nodup ts _ _)
  refine srt_unique (ts:=ts) ?_ (all_sorted ts) (hpm.trans (all_perm ts).symm)
  refine List.pairwise_map.2 ?_
  have hnd:=List.pairwise_map.1 hn
  refine hs.imp₂ ?_ hnd
  intro a b h1 h2
  simp only [Bool.not_eq_true',Bool.not_eq_eq_eq_not,Bool.not_true] at h1
  unfold ltOf at h1
  rw [lt_cmpR] at h1
  cases h3:refLess ts a.1 b.1 with
  | true=>rfl
  | false=>exact absurd (rl_total a.2 b.2 h3 h1) h2
theorem right_gives (W:World) (t:List UInt8):FnGives Tryz.prog 225 #[] #[strOf t] (.bool (!decide (t.length≤40))) W:=by
  unfold FnGives
  show Calls Tryz.prog 225 #[strOf t] W _
  have h:=str_len t
  by_cases h4:t.length≤40
  · have n1:(t.length:Int)≤40:=by omega
    rw [decide_eq_true h4]
    go_enter Tryz.func225,Tryz.ntmps225
    go_wp2
    go_ret
    exact ⟨rfl,0,rfl⟩
  · have n1: ¬(t.length:Int)≤40:=by omega
    rw [decide_eq_false h4]
    go_enter Tryz.func225,Tryz.ntmps225
    go_wp2
    go_ret
    exact ⟨rfl,0,rfl⟩
theorem right_eq (ts:List (List UInt8)):refRight ts=(decide (ts.length≤10)&& !ts.any fun t=> !decide (t.length≤40)):=by
  unfold refRight
  rw [Bool.and_comm]
  congr 1
  induction ts with
  | nil=>rfl
  | cons t ts ih=>rw [List.all_cons,List.any_cons,ih,Bool.not_or,Bool.not_not]
theorem rowsRight_calls (v : Value) (ts : List (List UInt8)) (hn : ts.length ≤ 50000) (w : World) (h : Rk w 1 v ts.length (ts.map strOf)) :
    Calls Tryz.prog 127 #[v] w fun e w'=>e= .returned (.bool (refRight ts))∧Below w.heap.size w w':=by
  rw [right_eq]
  have eg: ∀args w,(callFunc 225 args).run Tryz.prog w= .ok (.enter 225 args) w:=enters_of Tryz.func225 (by kernel_rfl) rfl
  obtain ⟨h1,A,cap,rfl,h2⟩:=h
  have hcon:Calls Tryz.prog 224 #[.slice A ts.length cap, .func (.func 225) #[] #[]] w fun e w'=>e= .returned (.bool (ts.any fun t=> !decide (t.length≤40)))∧Below w.heap.size w w':=by
    by_cases h0:0<ts.length
    · obtain ⟨g,cs,T,rfl,hg,hc⟩:=h2 h0
      have hcon:=AnyE.slices_ContainsFunc Tryz.layHasStr strOf (fun t=> !decide (t.length≤40)) 225 #[] eg g 0 ts.length cap ts w (fun W t _=>right_gives W t) (Nat.le_refl _) (by omega) (fun j hj=>by
        rw [Nat.zero_add,cells_of hg,hc j (by omega),List.getElem?_map,List.getElem?_eq_getElem hj,getElem!_pos ts j hj];rfl)
      refine Calls.mono hcon ?_
      rintro e w' ⟨rfl,q,rfl⟩
      rw [List.take_length]
      exact ⟨rfl,below_drewN (Below.refl _ _) q⟩
    · have hz:ts=[]:=List.length_eq_zero_iff.1 (by omega)
      subst hz
      have hcon:=AnyE.slices_ContainsFunc_empty Tryz.layHasStr A cap (.func (.func 225) #[] #[]) w
      refine Calls.mono hcon ?_
      rintro e w' ⟨rfl,rfl⟩
      exact ⟨rfl,Below.refl _ _⟩
  clear h1 h2 eg
  generalize (ts.any fun t=> !decide (t.length≤40))=r at hcon⊢
  by_cases h10:ts.length≤10
  · have n1:(ts.length:Int)≤10:=by omega
    rw [decide_eq_true h10]
    go_enter Tryz.func127,Tryz.ntmps127
    cases r with
    | true=>
      go_wp2_with (go_at_call 224;refine hcon.mono ?_;rintro e w' ⟨rfl,hb⟩)
      go_ret
      exact ⟨rfl,hb⟩
    | false=>
      go_wp2_with (go_at_call 224;refine hcon.mono ?_;rintro e w' ⟨rfl,hb⟩)
      go_ret
      exact ⟨rfl,hb⟩
  · have n1: ¬(ts.length:Int)≤10:=by omega
    rw [decide_eq_false h10]
    go_enter Tryz.func127,Tryz.ntmps127
    go_wp2_with fail
    go_ret
    exact ⟨rfl,Below.refl _ _⟩
end
section
open Go.RowKit Go.Sort Go.Shelf
attribute [local go_sem ↓] Go.wp_at_zero Go.wp_at_succ
attribute [local go_sem] str_len
theorem sort_calls {ts : List (List UInt8)} (hts : ∀ t, t ∈ ts → t.length ≤ 50000) {v : Value} {b0 bl g cap : Nat} {cur : Array Value} {W0 W : World} {T : TypeId} (hb : W0.heap.size ≤ g) (hB : Below W0.heap.size W0 W)
    (kl:W0.heap[bl]? =some (.cells #[v] T (0,0))) (hT:T=75) (hK:Rk W0 1 v ts.length (ts.map strOf)) (hg:W.heap[g]? =some (.cells cur 136 (0,0))) (hl:0<(upto ts ts.length 0).length) (hl5:(upto ts ts.length 0).length≤500)
    (hc: ∀j,j<(upto ts ts.length 0).length*2→W.cell? ⟨g,j,none⟩=(rowCells (upto ts ts.length 0))[j]?):
    Calls Tryz.prog 221 #[.slice (some ⟨g,0,none⟩) (upto ts ts.length 0).length cap, .func (.func 222) #[] #[.pointer (some ⟨bl,0,none⟩)]] W fun e w'=>
      e= .returned (.tuple #[])∧Below W0.heap.size W w'∧ ∃cs,w'.heap[g]? =some (.cells cs 136 (0,0))∧ ∀j,j<(upto ts ts.length 0).length*2→cs[j]? =(rowCells (refFold ts (upto ts ts.length 0)))[j]? :=by
  subst hT
  have hin: ∀x,x∈upto ts ts.length 0→RowIn ts x:=fun x h=>upto_in h
  obtain ⟨x0,hx0⟩: ∃x,(upto ts ts.length 0)[0]? =some x:=⟨_,List.getElem?_eq_getElem hl⟩
  haveI:Inhabited (RowT ts):=⟨⟨x0,hin x0 (List.mem_of_getElem? hx0)⟩⟩
  have eg: ∀args w,(callFunc 222 args).run Tryz.prog w= .ok (.enter 222 args) w:=enters_of Tryz.func222 (by kernel_rfl) rfl
  have hlt:=lt_of hg
  have hW:W0.heap.size≤W.heap.size:=hB.size
  have hlen:(rowsT ts (upto ts ts.length 0) hin).length=(upto ts ts.length 0).length:=by unfold rowsT;simp
  have hH:HoldsK (encR (ts:=ts)) 2 W g 0 (rowsT ts (upto ts ts.length 0) hin).toArray:=fun j hj=>by
    rw [size_flatK,List.size_toArray,hlen] at hj
    rw [Nat.zero_add]
    refine ⟨?_,free_of hg _⟩
    have:=flat_rows (rowsT ts (upto ts ts.length 0) hin) j (by rw [hlen];exact hj)
    rw [rowsT_val] at this
    rw [hc j hj,←this];rfl
  have hcmp:CmpLays Tryz.prog 222 #[.pointer (some ⟨bl,0,none⟩)] (encR (ts:=ts)) 2 (cmpR ts) g 0 (rowsT ts (upto ts ts.length 0) hin).toArray.size W:=fun m os dk _ x y=>by
    have hBs:Below W0.heap.size W0 (sortWorldK encR 2 W g 0 m dk os):=hB.trans (sortK_below encR 2 dk os hb hW)
    exact (cmpR_calls v ts hts x y bl _ (keep_blk hBs kl) (hK.below hBs)).mono fun e w' h=>⟨h.1,h.2⟩
  have hcon:=AnyQ.slices_SortFunc_total Tryz.laySort 2 Tryz.isAgg136 Tryz.sizeOf136 (encR (ts:=ts)) (fun _=>rfl) (fun x u hu=>by simp [encR] at hu;rcases hu with rfl|rfl<;>rfl) (cmpR ts) (swoR ts) 222 #[.pointer (some ⟨bl,0,none⟩)] g 0 cap (rowsT ts (upto ts ts.length 0) hin).toArray W eg hcmp hH hlt (by rw [List.size_toArray,hlen];omega) (totR ts)
  rw [List.size_toArray,hlen] at hcon
  refine Calls.mono hcon ?_
  rintro e w' ⟨rfl,n,os,rfl⟩
  refine ⟨rfl,sortK_below _ _ _ _ hb hW,?_⟩
  obtain ⟨cs,h1,h2⟩:=sortK_cells (encR (ts:=ts)) 2 (m:=n) hg (rowsT ts (upto ts ts.length 0) hin).toArray ((rowsT ts (upto ts ts.length 0) hin).toArray.toList.mergeSort fun x y=> !ltOf (cmpR ts) y x).toArray os hH (by simp)
  refine ⟨cs,h1,fun j hj=> ?_⟩
  have hml:((rowsT ts (upto ts ts.length 0) hin).mergeSort fun x y=> !ltOf (cmpR ts) y x).length=(upto ts ts.length 0).length:=by rw [List.length_mergeSort,hlen]
  have h3:=flat_rows ((rowsT ts (upto ts ts.length 0) hin).mergeSort fun x y=> !ltOf (cmpR ts) y x) j (by rw [hml];exact hj)
  rw [merge_all] at h3
  rw [←h3]
  exact h2 j (by simp only [List.size_toArray];rw [hml];exact hj)
theorem sort_none (A:Option Addr) (cap:Nat) (fv:Value) (w:World):Calls Tryz.prog 221 #[.slice A 0 cap,fv] w fun e w'=>e= .returned (.tuple #[])∧w'=w:=
  AnyF.slices_SortFunc_none Tryz.laySort A cap fv w
theorem rowsSorted_walk (v : Value) (ts : List (List UInt8)) (hrt : refRight ts = true) (w : World) (h : Rk w 1 v ts.length (ts.map strOf)) :
    Calls Tryz.prog 126 #[v] w fun e w'=> ∃v',e= .returned v'∧Rk w' 2 v' (refFold ts (upto ts ts.length 0)).length (rowCells (refFold ts (upto ts ts.length 0)))∧Below w.heap.size w w':=by
  obtain ⟨hn10,h40⟩:=right_len hrt
  have H40:=Lib.hid h40;clear h40
  have HK:=Lib.hid h
  obtain ⟨h1,A,cap,rfl,h2⟩:=h
  clear h1 h2
  go_enter Tryz.func126,Tryz.ntmps126
  go_wp2_with fail
  refine cg fun V0 hV_V0=> ?_
  have hB:=Below.refl w.heap.size w
  refine neb0 hV_V0 hB ?_;clear hB;intro z_V0 hB
  obtain ⟨kl,c_kl,l_klV0⟩:=nM hV_V0 (w.heap.size)
  clear hV_V0
  refine rC (rowsRight_calls _ ts (by omega) _ (HK.out.below hB)) fun W0 hb_W0=> ?_
  refine beb1 hb_W0 hB kl ?_;clear hb_W0 hB kl c_kl;intro z_W0 hB kl c_kl
  rw [hrt]
  have HB0:=Lib.hid hB;have KL:=Lib.hid kl;have HK0:=Lib.hid (HK.out.below hB)
  have hz0:=hB.size
  clear hB
  generalize hkb:w.heap.size=kb at*
  go_wp2_with fail
  go_loopg [3,12] ts.length (fun k p q wr=> ∃d:Nat,q= .int .i64 (d:Int)∧d+k=ts.length∧Hid (wr.ownsRow W0.heap.size 136 2 p (upto ts d 0).length (rowCells (upto ts d 0)))∧Hid (Below W0.heap.size W0 wr))
  case atStart=>exact ⟨0,rfl,by omega,Lib.hid (own_nil _ _ _ _),Lib.hid (Below.refl _ _)⟩
  case round=>
    obtain ⟨d,rfl,hk,Hown,HB⟩:=hrel
    by_cases hlt:d<ts.length
    · obtain ⟨k,rfl⟩: ∃k,gk=k+1:=⟨gk - 1,by omega⟩
      obtain ⟨t,ht⟩:=at_some hlt
      have n1:decide ((d:Int)<(ts.length:Int))=true:=by simpa using hlt
      have n2:(d:Int)<(ts.length:Int):=by omega
      have E3:=Lib.hid (step_wrap d 10 (by omega) (by omega))
      have hgd:=getD_at ht
      have hlen:=H40.out d
      rw [hgd] at hlen
      obtain ⟨-,A',cap',hv,h2⟩:=HK0.out.below HB.out
      obtain ⟨g,cs,T,rfl,kg,hcs⟩:=h2 (by omega)
      obtain ⟨rfl, -,rfl⟩:=Value.slice.inj hv
      have hci:cs[d]? =some (strOf t):=by rw [hcs d (by omega),List.getElem?_map,ht];rfl
      clear h2 hv hcs
      have e4:wrap64 ((t.length:Int)+1)=(t.length:Int)+1:=step_wrap t.length 40 (by omega) (by omega)
      have c_kg:=f3 kg;have l_kgwr:=lt_of kg
      go_wp2_with fail
      go_loopg [3,20] (t.length+1) (fun k2 p q wr=> ∃a:Nat,q= .int .i64 (a:Int)∧a+k2=t.length+1∧Hid (wr.ownsRow W0.heap.size 136 2 p (upto ts d a).length (rowCells (upto ts d a)))∧Hid (Below W0.heap.size W0 wr))
      case atStart=>exact ⟨0,rfl,by omega,Hown,HB⟩
      case round=>
        clear Hown HB kg c_kg hci
        obtain ⟨a,rfl,hk2,Hown,HB⟩:=hrel
        by_cases hla:a≤t.length
        · obtain ⟨k2,rfl⟩: ∃k,gk=k+1:=⟨gk - 1,by omega⟩
          have m1:decide ((a:Int)<(t.length:Int)+1)=true:=by simp;omega
          have E4:=Lib.hid (step_wrap a 40 (by omega) (by omega))
          have hw0:=HB.out.size
          have hol:(upto ts d a).length≤500:=by have:=upto_length H40.out d a;omega
          have hown:=Hown.out
          go_wp2_with (at_builtin;refine wpList_push _ (by rfl) _ _ 131 (by rfl) (W0.heap.size) 136 (.agg #[.int .i64 0, .int .i64 0]) 2 16 Tryz.underlying131 (by kernel_rfl) (by rfl) (by omega) _ _ _ (by rfl) hown _ (by rfl) (by rfl) (by simp [Value.oneCell']) (by unfold maxLen;omega) (by omega) (by omega) ?_;intro g_W c_W W3 hown_W hlow_W hlt_W)
          go_wp2_with fail
          go_roundg k2
          case measure=>omega
          case rel=>
            refine ⟨a+1,by first|rfl|(rw [E4.out];rfl),by omega,Lib.hid ?_,Lib.hid (low_step HB.out (by omega) hlow_W)⟩
            rw [upto_snoc,rowCells_append,List.length_append]
            exact hown_W
        · have m1:decide ((a:Int)<(t.length:Int)+1)=false:=by simp;omega
          obtain rfl:a=t.length+1:=by omega
          have Hown':=Hown
          rw [show t.length=(ts.getD d []).length by rw [hgd],upto_next] at Hown'
          go_wp2_with fail
          go_roundg k
          case measure=>omega
          case rel=>exact ⟨d+1,by first|rfl|(rw [E3.out];rfl),by omega,Hown',HB⟩
    · have n1:decide ((d:Int)<(ts.length:Int))=false:=by simpa using hlt
      obtain rfl:d=ts.length:=by omega
      have hol:(upto ts ts.length 0).length≤500:=by have:=upto_length H40.out ts.length 0;omega
      have hw0:=HB.out.size
      have hfl:=refFold_length ts (upto ts ts.length 0)
      have hts: ∀t,t∈ts→t.length≤50000:=fun t ht=>by
        obtain ⟨i,hi⟩:=List.getElem?_of_mem ht
        have:=H40.out i
        rw [getD_at hi] at this;omega
      have HT:=Lib.hid hts;clear hts
      obtain ⟨-,A3,c3,rfl,hx3⟩:=Rx.of_own Hown.out
      by_cases h0:0<(upto ts ts.length 0).length
      · obtain ⟨g3,hv3,hg3,hc3⟩:=hx3 h0
        rcases Hown.out.2 with ⟨-,hz⟩|⟨g4,cap4,cur4,hv4,hg4,hc4, -, -, -, -⟩
        · omega
        · have e43 : g4 = g3 := by
            have:=(Value.slice.inj hv4).1
            rw [hv3] at this
            simp at this
            exact this.symm
          subst e43
          have hsort:=Lib.hid (sort_calls (cap:=c3) (b0:=0) HT.out hg4 HB.out KL.out rfl HK0.out hc4 h0 hol hc3)
          subst hv3
          go_wp2_with (go_at_call 221;refine hsort.out.mono ?_;rintro e w' ⟨rfl,hbs,cs,hcs,hrow⟩)
          go_ret
          refine ⟨_,rfl,⟨?_,_,_,by rw [hfl];rfl,fun _=>⟨_,_,_,rfl,hcs,fun j hj=> ?_⟩⟩,?_⟩
          · rw [rowCells_length]
          · exact hrow j (by rw [hfl] at hj;exact hj)
          · have:=HB.out.trans hbs
            have hb0:Below w.heap.size w W0:=by rw [hkb];exact HB0.out
            exact below_step hb0 this
      · have hz:(upto ts ts.length 0).length=0:=by omega
        have hsort:Calls Tryz.prog 221 #[.slice A3 (upto ts ts.length 0).length c3, .func (.func 222) #[] #[.pointer (some ⟨kb,0,none⟩)]] wr fun e w'=>e= .returned (.tuple #[])∧w'=wr:=by
          rw [hz];exact sort_none A3 c3 _ wr
        have hb0:Below w.heap.size w wr:=below_step (by rw [hkb];exact HB0.out) HB.out
        have HS:=Lib.hid hsort
        have HZ:=Lib.hid hz
        clear hsort hz h0
        go_wp2_with (go_at_call 221;refine HS.out.mono ?_;rintro e w' ⟨rfl,rfl⟩)
        go_ret
        refine ⟨_,rfl,⟨by rw [rowCells_length],_,_,by rw [hfl];rfl,fun h=>absurd h (by rw [hfl,HZ.out];omega)⟩,hb0⟩
theorem rowsSorted_calls (v : Value) (ts : List (List UInt8)) (hn : ts.length ≤ 50000) (w : World) (h : Rk w 1 v ts.length (ts.map strOf)) :
    Calls Tryz.prog 126 #[v] w fun e w'=> ∃v',e= .returned v'∧Rk w' 2 v' (refSorted ts).length (rowCells (refSorted ts))∧Below w.heap.size w w':=by
  by_cases hrt:refRight ts=true
  · have:=rowsSorted_walk v ts hrt w h
    unfold refSorted
    rw [if_pos hrt];exact this
  · have hr0:refRight ts=false:=by simpa using hrt
    have hs:refSorted ts=[]:=by unfold refSorted;rw [if_neg hrt]
    rw [hs]
    have HK:=Lib.hid h
    obtain ⟨h1,A,cap,rfl,h2⟩:=h
    clear h1 h2
    go_enter Tryz.func126,Tryz.ntmps126
    go_wp2_with fail
    refine cg fun V0 hV_V0=> ?_
    have hB:=Below.refl w.heap.size w
    refine neb0 hV_V0 hB ?_;clear hB;intro z_V0 hB
    obtain ⟨kl,c_kl,l_klV0⟩:=nM hV_V0 (w.heap.size)
    clear hV_V0
    refine rC (rowsRight_calls _ ts hn _ (HK.out.below hB)) fun W0 hb_W0=> ?_
    refine beb1 hb_W0 hB kl ?_;clear hb_W0 hB kl c_kl;intro z_W0 hB kl c_kl
    rw [hr0]
    go_wp2_with fail
    go_ret
    exact ⟨_,rfl,⟨rfl,none,0,rfl,fun h=>absurd h (by simp)⟩,hB⟩
end
section
open Go.RowKit
attribute [local go_sem ↓] Go.wp_at_zero Go.wp_at_succ
theorem symof_calls (b:UInt8) (w:World):Calls Tryz.prog 227 #[.int .u8 (b.toNat:Int)] w fun e w'=>e= .returned (.int .i64 ((b.toNat:Int)+1))∧Below w.heap.size w w':=by
  have hb:=b.toNat_lt
  have e1:wrap64 ((b.toNat:Int)+1)=(b.toNat:Int)+1:=IntWalk.wrap64_in _ (by omega)
  have e2:wrap64 (b.toNat:Int)=(b.toNat:Int):=IntWalk.wrap64_in _ (by omega)
  go_enter Tryz.func227,Tryz.ntmps227
  go_wp2_with fail
  go_ret
  exact ⟨rfl,Below.refl _ _⟩
section
attribute [local go_sem] str_len
theorem rowsSymbols_calls (v : Value) (ts : List (List UInt8)) (hn : ts.length ≤ 50000) (hn2 : ∀ t, t ∈ ts → t.length ≤ 50000) (w : World) (h : Rk w 1 v ts.length (ts.map strOf)) :
    Calls Tryz.prog 132 #[v] w fun e w'=> ∃v',e= .returned v'∧w'.ownsRow w.heap.size 3 1 v' (refSorted ts).length (intCells ((refSorted ts).map (symOf ts)))∧Below w.heap.size w w':=by
  obtain ⟨R,hR⟩: ∃R,R=refSorted ts:=⟨_,rfl⟩
  rw [←hR]
  have HK:=Lib.hid h
  obtain ⟨h1,A,cap,rfl,h2⟩:=h
  have hval: ∀x,x∈R→ ∃t,ts[x.1]? =some t∧x.2≤t.length:=fun x hx=>sorted_valid (hR▸hx)
  have hsm:R.length≤500:=by rw [hR];exact sorted_small ts
  have Hval:=Lib.hid hval;have HR:=Lib.hid hR
  clear h1 h2 hval hR
  go_enter Tryz.func132,Tryz.ntmps132
  go_wp2_with fail
  refine cg fun V0 hV_V0=> ?_
  have hB:=Below.refl w.heap.size w
  refine neb0 hV_V0 hB ?_;clear hB;intro z_V0 hB
  clear hV_V0
  refine (rowsSorted_calls _ ts hn _ (HK.out.below hB)).mono ?_
  rintro e1 W1 ⟨v1,rfl,hown1,hb1⟩
  have hB1:=below_step hB hb1
  rw [←HR.out] at hown1
  have HX:=Lib.hid hown1;have HB1:=Lib.hid hB1
  obtain ⟨-,A1,c1,rfl, -⟩:=hown1
  have hsz1:=hB1.size
  clear hb1 hB hB1
  go_wp2_with fail
  go_loopg [3,10] R.length (fun k p q wr=> ∃i:Nat,q= .int .i64 (i:Int)∧i+k=R.length∧Hid (wr.ownsRow W1.heap.size 3 1 p i (intCells ((R.take i).map (symOf ts))))∧Hid (Below W1.heap.size W1 wr))
  case atStart=>exact ⟨0,rfl,by omega,Lib.hid (own_nil _ _ _ _),Lib.hid (Below.refl _ _)⟩
  case round=>
    obtain ⟨i,rfl,hk,Hown,HB⟩:=hrel
    by_cases hlt:i<R.length
    · obtain ⟨k,rfl⟩: ∃k,gk=k+1:=⟨gk - 1,by omega⟩
      obtain ⟨x,hx⟩:=at_some hlt
      obtain ⟨t,ht,hxt⟩:=Hval.out x (List.mem_of_getElem? hx)
      obtain ⟨-,A',cap',hv,h2⟩:=HX.out.below HB.out
      obtain ⟨g1,cs1,T1,rfl,kg1,hcs1⟩:=h2 (by omega)
      obtain ⟨rfl, -,rfl⟩:=Value.slice.inj hv
      have c1a:cs1[i*2]? =some (.int .i64 (x.1:Int)):=(hcs1 _ (by omega)).trans (rowCells_at hx).1
      have c1b:cs1[i*2+1]? =some (.int .i64 (x.2:Int)):=(hcs1 _ (by omega)).trans (rowCells_at hx).2
      clear h2 hv hcs1
      have htake:Hid (intCells ((R.take (i+1)).map (symOf ts))=intCells ((R.take i).map (symOf ts))++[.int .i64 (symOf ts x)]):=Lib.hid (by
        unfold intCells
        rw [List.take_succ_eq_append_getElem hlt,List.map_append,List.map_append,(List.getElem_eq_iff hlt).2 hx];rfl)
      have n1:decide ((i:Int)<(R.length:Int))=true:=by simpa using hlt
      have n2:(i:Int)<(R.length:Int):=by omega
      have E3:=Lib.hid (step_wrap i 500 (by omega) (by omega))
      have hw1:=HB.out.size
      by_cases h0:x.2=0
      · have hs:Hid (symOf ts x=0):=Lib.hid (by unfold symOf;rw [if_pos h0])
        have d0:decide (0<x.2)=false:=by rw [h0];rfl
        have d1:decide ((0:Int)<(x.2:Int))=false:=by rw [h0];rfl
        clear h0 hxt
        have hHB:=HB.out
        have c_kg1:=f3 kg1;have l_kg1wr:=lt_of kg1
        go_wp2_with (at_builtin;refine wpList_push _ (by rfl) _ _ 43 (by rfl) (W1.heap.size) 3 (.int .i64 0) 1 8 Tryz.underlying43 (by kernel_rfl) (by rfl) (by omega) _ _ _ (by rfl) (own_below Hown.out (bel)) _ (by rfl) (by rw [siz_alloc];rfl) (by simp [Value.oneCell']) (by unfold maxLen;omega) (by omega) (by simp only [siz_alloc,siz_set];omega) ?_;intro g_W c_W W5 hown_W hlow_W hlt_W)
        go_wp2_with fail
        go_roundg k
        case measure=>omega
        case rel=>exact ⟨i+1,by first|rfl|(rw [E3.out];rfl),by omega,Lib.hid (by rw [htake.out,hs.out];exact hown_W),Lib.hid (low_step (bel) (Nat.le_refl _) hlow_W)⟩
      · obtain ⟨j,hj⟩: ∃j:Nat,x.2=j+1:=⟨x.2 - 1,by omega⟩
        obtain ⟨b,hb⟩:=at_some (show j<t.length by omega)
        have htl:=hn2 t (List.mem_of_getElem? ht)
        have hs:Hid (symOf ts x=(b.toNat:Int)+1):=Lib.hid (by unfold symOf;rw [if_neg h0,getD_at ht,hj];simp [List.getD,hb])
        have d0:decide ((0:Int)<(x.2:Int))=true:=by simp;omega
        obtain ⟨hd, -⟩:=List.getElem?_eq_some_iff.1 ht
        obtain ⟨-,A2,cap2,hv2,h3⟩:=(HK.out.below HB1.out).below HB.out
        obtain ⟨g2,cs2,T2,rfl,kg2,hcs2⟩:=h3 (by omega)
        obtain ⟨rfl, -,rfl⟩:=Value.slice.inj hv2
        have c2a:cs2[x.1]? =some (strOf t):=by rw [hcs2 _ (by omega),List.getElem?_map,ht];rfl
        have n3:(x.1:Int)<(ts.length:Int):=by omega
        have hix:=str_index t j b hb
        have hxj:(x.2:Int)=(j:Int)+1:=by omega
        rw [hxj] at c1b d0
        have e8:wrap64 ((j:Int)+1 - 1)=(j:Int):=by rw [show (j:Int)+1 - 1=(j:Int) by omega];exact step_id j t.length (by omega) (by omega)
        have e9:wrap64 (j:Int)=(j:Int):=step_id j t.length (by omega) (by omega)
        have E9:=Lib.hid e9
        clear h0 hxt h3 hv2 hcs2 hb hxj e9
        have hB:=Below.refl wr.heap.size wr
        have c_kg1:=f3 kg1;have l_kg1wr:=lt_of kg1
        have c_kg2:=f3 kg2;have l_kg2wr:=lt_of kg2
        go_wp2_with fail
        refine wg fun V hV_V=> ?_
        refine neb2 hV_V hB kg1 kg2 ?_;clear hB kg1 kg2 c_kg1 c_kg2;intro z_V hB kg1 c_kg1 kg2 c_kg2
        obtain ⟨kr,c_kr,l_krV⟩:=nM hV_V (wr.heap.size)
        clear hV_V
        have HBV:=Lib.hid (below_step HB.out hB)
        have HO:=Lib.hid (own_below Hown.out hB)
        have hzV:=hB.size
        clear hB
        have e9:=E9.out
        refine wp_region_noPanic ?_
        refine wp_region_held_drew (S:=fun v=>Below V.heap.size V v∧(V.heap.size≤v.heap.size)∧ ∀b o,b<V.heap.size→v.cell? ⟨b,o,none⟩=V.cell? ⟨b,o,none⟩) (by kernel_rfl) (HeldB.start V) (fun hHeld=> ?_)
        have hB_d:Below V.heap.size V V.drew:=(Below.refl _ _).drew
        generalize V.drew=Vd at hHeld hB_d⊢
        refine ta 0 hHeld ?_
        refine ta 1 hHeld ?_
        refine ta 2 hHeld ?_
        refine ta 3 hHeld ?_
        refine ta 4 hHeld ?_
        refine ta 5 hHeld ?_
        refine ta 6 hHeld ?_
        refine ta 7 hHeld ?_
        refine ta 8 hHeld ?_
        clear e8 e9
        refine rd 9 rfl fun K hK=> ?_
        go_simp
        refine (symof_calls b _).mono ?_
        rintro e6 W6 ⟨rfl,hb6⟩
        refine ho hK (HeldB.call hHeld hb6) fun hHeld=> ?_
        clear hK K
        refine rd 10 rfl fun K hK=> ?_
        go_simp
        refine ho hK hHeld fun hHeld=> ?_
        clear hK K
        refine wpAnyH_done (by kernel_rfl) ?_ _
        refine NoPanic.normal ?_
        have HB6:=Lib.hid (hHeld.1)
        have HO6:=Lib.hid (own_below HO.out hHeld.1)
        have hz6:=hHeld.1.size
        clear hHeld hb6 kg1 kg2 kr c_kg1 c_kg2 c_kr hB_d
        go_wp2_with (at_builtin;refine wpList_push _ (by rfl) _ _ 43 (by rfl) (W1.heap.size) 3 (.int .i64 0) 1 8 Tryz.underlying43 (by kernel_rfl) (by rfl) (by omega) _ _ _ (by rfl) HO6.out _ (by rfl) (by rfl) (by simp [Value.oneCell']) (by unfold maxLen;omega) (by omega) (by omega) ?_;intro g_W c_W W7 hown_W hlow_W hlt_W)
        go_wp2_with fail
        go_roundg k
        case measure=>omega
        case rel=>exact ⟨i+1,by first|rfl|(rw [E3.out];rfl),by omega,Lib.hid (by rw [htake.out,hs.out];exact hown_W),Lib.hid (low_step (below_step HBV.out HB6.out) (Nat.le_refl _) hlow_W)⟩
    · have hi:i=R.length:=by omega
      have n1:decide ((i:Int)<(R.length:Int))=false:=by simpa using hlt
      have hown:=Hown.out
      rw [hi,List.take_length] at hown
      have HO:=Lib.hid (own_mono hown hsz1);clear hown Hown
      have HBF:=Lib.hid (below_step HB1.out HB.out)
      go_wp2_with fail
      go_ret
      exact ⟨u3,rfl,HO.out,HBF.out⟩
end
end
section
open Go.RowKit Go.Shelf
attribute [local go_sem ↓] Go.wp_at_zero Go.wp_at_succ
def encI (x:Int×Int):List Value:=[.int .i64 x.1, .int .i64 x.2]
theorem neqItem:NeqAt Tryz.prog 140 (fun x:Int×Int=> .agg (encI x).toArray) (fun x y=>x==y):=by
  refine ⟨fun x y w=> ?_,GuardAt.agg _ (by kernel_rfl)⟩
  have u3:=Tryz.underlying3
  have a3:=Tryz.isAgg3
  have z3:=Tryz.sizeOf3
  have hS:Tryz.prog.underlying 140=some (.struct (Tryz.prog.fieldsOf 140)):=by kernel_rfl
  have hp:Tryz.prog.stoodInHeld 140=false:=by kernel_rfl
  obtain ⟨x1,x2⟩:=x
  obtain ⟨y1,y2⟩:=y
  simp only [encI]
  rw [run_neq_struct,show (10000:Nat)=9999+1 from rfl,run_equalIn_agg w 9999 140 _ _ hS hp]
  simp only [Program.fieldsOf,Tryz.underlying140]
  go_simp
  by_cases h1:x1=y1<;>by_cases h2:x2=y2<;>simp [h1,h2]
theorem allEq_items {α:Type} [BEq α] [LawfulBEq α]: ∀(a b:List α),Lib.allEq (fun x y=>x==y) a b=(a==b)
  | [],[]=>rfl
  | [],_::_=>rfl
  | _::_,[]=>rfl
  | x::a,y::b=>by
    unfold Lib.allEq
    rw [allEq_items a b];rfl
theorem equal_short {F : Nat} (hwalk : ∀ (A B : Option Addr) (n m c d : Nat) (w : World), n ≠ m ∨ n = 0 → n ≤ 50000 → m ≤ 50000 → Calls Tryz.prog F #[.slice A n c, .slice B m d] w fun e w' => e = .returned (.bool (decide (n = m))) ∧ Below w.heap.size w w')
    {α:Type} [BEq α] [LawfulBEq α] (a b:List α) (ha:a.length≤50000) (hb:b.length≤50000) (h:a.length≠b.length∨a.length=0) (A B:Option Addr) (c d:Nat) (w:World):
    Calls Tryz.prog F #[.slice A a.length c, .slice B b.length d] w fun e w'=>e= .returned (.bool (a==b))∧Below w.heap.size w w':=by
  have hx:=hwalk A B a.length b.length c d w h ha hb
  have:decide (a.length=b.length)=(a==b):=by
    by_cases e:a.length=b.length
    · rcases h with h|h
      · exact absurd e h
      · have h1:a=[]:=List.length_eq_zero_iff.1 h
        have h2:b=[]:=List.length_eq_zero_iff.1 (by omega)
        rw [h1,h2];rfl
    · have:a≠b:=fun q=>e (congrArg List.length q)
      rw [decide_eq_false e]
      simp [this]
  rw [this] at hx;exact hx
theorem itemCells_enc (l:List (Int×Int)) (j:Nat) (hj:j<l.length) (i:Nat) (v:Value) (hv:(encI l[j]!)[i]? =some v):(itemCells l)[j*2+i]? =some v:=by
  obtain ⟨h1,h2⟩:=itemCells_at l j l[j] (List.getElem?_eq_getElem hj)
  rw [getElem!_pos l j hj] at hv
  unfold encI at hv
  match i with
  | 0=>simp at hv;rw [←hv];exact h1
  | 1=>simp at hv;rw [←hv];exact h2
  | i+2=>simp at hv
theorem eqItem_short (A B:Option Addr) (n m c d:Nat) (w:World) (h:n≠m∨n=0) (hn:n≤50000) (hm:m≤50000):Calls Tryz.prog 128 #[.slice A n c, .slice B m d] w fun e w'=>e= .returned (.bool (decide (n=m)))∧Below w.heap.size w w':=by
  by_cases e:n=m
  · subst e
    obtain rfl:n=0:=by omega
    rw [decide_eq_true rfl]
    go_enter Tryz.func128,Tryz.ntmps128
    go_wp2_with fail
    go_loopg [13] 0 (fun k p wr=>p= .int .i64 0∧Hid (Below w.heap.size w wr))
    case atStart=>exact ⟨rfl,Lib.hid (Below.refl _ _)⟩
    case round=>
      obtain ⟨rfl,HB⟩:=hrel
      go_wp2_with fail
      go_ret
      exact ⟨rfl,HB.out⟩
  · have e1: ¬(n:Int)=(m:Int):=by omega
    rw [decide_eq_false e]
    clear h e
    go_enter Tryz.func128,Tryz.ntmps128
    go_wp2_with fail
    go_ret
    exact ⟨rfl,Below.refl _ _⟩
theorem eqItem_calls (v1 v2 : Value) (a b : List (Int × Int)) (ha : a.length ≤ 50000) (hb : b.length ≤ 50000) (w : World) (h1 : Rx w 2 v1 a.length (itemCells a)) (h2 : Rx w 2 v2 b.length (itemCells b)) :
    Calls Tryz.prog 128 #[v1,v2] w fun e w'=>e= .returned (.bool (a==b))∧Below w.heap.size w w':=by
  obtain ⟨-,A,c,rfl,h1⟩:=h1
  obtain ⟨-,B,d,rfl,h2⟩:=h2
  by_cases h:a.length≠b.length∨a.length=0
  · exact equal_short eqItem_short a b ha hb h A B c d w
  · obtain ⟨g1,rfl, -,c1⟩:=h1 (by omega)
    obtain ⟨g2,rfl, -,c2⟩:=h2 (by omega)
    have hcon:=AnyQ.slices_Equal Tryz.layEqItem 2 Tryz.isAgg140 Tryz.sizeOf140 encI (fun _=>rfl) (fun x y=>x==y) neqItem g1 0 a.length c g2 0 b.length d a b w (Nat.le_refl _) (Nat.le_refl _) (by omega) (by omega) (fun j hj i v hv=>by
      have h2:i<2:=by
        rcases Nat.lt_or_ge i 2 with h|h
        · exact h
        · rw [List.getElem?_eq_none (by simp [encI];omega)] at hv;cases hv
      rw [Nat.zero_add,c1 _ (by omega)];exact itemCells_enc a j hj i v hv) (fun j hj i v hv=>by
      have h2:i<2:=by
        rcases Nat.lt_or_ge i 2 with h|h
        · exact h
        · rw [List.getElem?_eq_none (by simp [encI];omega)] at hv;cases hv
      rw [Nat.zero_add,c2 _ (by omega)];exact itemCells_enc b j hj i v hv)
    rw [List.take_length,List.take_length,allEq_items] at hcon
    refine Calls.mono hcon ?_
    rintro e w' ⟨rfl,q,rfl⟩
    exact ⟨rfl,below_drewN (Below.refl _ _) q⟩
theorem eqInt_short (A B:Option Addr) (n m c d:Nat) (w:World) (h:n≠m∨n=0) (hn:n≤50000) (hm:m≤50000):Calls Tryz.prog 130 #[.slice A n c, .slice B m d] w fun e w'=>e= .returned (.bool (decide (n=m)))∧Below w.heap.size w w':=by
  by_cases e:n=m
  · subst e
    obtain rfl:n=0:=by omega
    rw [decide_eq_true rfl]
    go_enter Tryz.func130,Tryz.ntmps130
    go_wp2_with fail
    go_loopg [13] 0 (fun k p wr=>p= .int .i64 0∧Hid (Below w.heap.size w wr))
    case atStart=>exact ⟨rfl,Lib.hid (Below.refl _ _)⟩
    case round=>
      obtain ⟨rfl,HB⟩:=hrel
      go_wp2_with fail
      go_ret
      exact ⟨rfl,HB.out⟩
  · have e1: ¬(n:Int)=(m:Int):=by omega
    rw [decide_eq_false e]
    clear h e
    go_enter Tryz.func130,Tryz.ntmps130
    go_wp2_with fail
    go_ret
    exact ⟨rfl,Below.refl _ _⟩
theorem eqInt_calls (v1 v2 : Value) (a b : List Int) (ha : a.length ≤ 50000) (hb : b.length ≤ 50000) (w : World) (h1 : Rx w 1 v1 a.length (a.map fun x => .int .i64 x)) (h2 : Rx w 1 v2 b.length (b.map fun x => .int .i64 x)) :
    Calls Tryz.prog 130 #[v1,v2] w fun e w'=>e= .returned (.bool (a==b))∧Below w.heap.size w w':=by
  obtain ⟨-,A,c,rfl,h1⟩:=h1
  obtain ⟨-,B,d,rfl,h2⟩:=h2
  by_cases h:a.length≠b.length∨a.length=0
  · exact equal_short eqInt_short a b ha hb h A B c d w
  · obtain ⟨g1,rfl, -,c1⟩:=h1 (by omega)
    obtain ⟨g2,rfl, -,c2⟩:=h2 (by omega)
    have hcon:=AnyE.slices_Equal Tryz.layEqInt (fun x=> .int .i64 x) (fun x y=>x==y) (NeqAt.int Tryz.prog 3 .i64) g1 0 a.length c g2 0 b.length d a b w (Nat.le_refl _) (Nat.le_refl _) (by omega) (by omega) (fun j hj=>by
      rw [Nat.zero_add,c1 _ (by omega),List.getElem?_map,List.getElem?_eq_getElem hj,getElem!_pos a j hj];rfl) (fun j hj=>by
      rw [Nat.zero_add,c2 _ (by omega),List.getElem?_map,List.getElem?_eq_getElem hj,getElem!_pos b j hj];rfl)
    rw [List.take_length,List.take_length,allEq_items] at hcon
    refine Calls.mono hcon ?_
    rintro e w' ⟨rfl,q,rfl⟩
    exact ⟨rfl,below_drewN (Below.refl _ _) q⟩
theorem eqBool_short (A B:Option Addr) (n m c d:Nat) (w:World) (h:n≠m∨n=0) (hn:n≤50000) (hm:m≤50000):Calls Tryz.prog 133 #[.slice A n c, .slice B m d] w fun e w'=>e= .returned (.bool (decide (n=m)))∧Below w.heap.size w w':=by
  by_cases e:n=m
  · subst e
    obtain rfl:n=0:=by omega
    rw [decide_eq_true rfl]
    go_enter Tryz.func133,Tryz.ntmps133
    go_wp2_with fail
    go_loopg [13] 0 (fun k p wr=>p= .int .i64 0∧Hid (Below w.heap.size w wr))
    case atStart=>exact ⟨rfl,Lib.hid (Below.refl _ _)⟩
    case round=>
      obtain ⟨rfl,HB⟩:=hrel
      go_wp2_with fail
      go_ret
      exact ⟨rfl,HB.out⟩
  · have e1: ¬(n:Int)=(m:Int):=by omega
    rw [decide_eq_false e]
    clear h e
    go_enter Tryz.func133,Tryz.ntmps133
    go_wp2_with fail
    go_ret
    exact ⟨rfl,Below.refl _ _⟩
theorem eqBool_calls (v1 v2 : Value) (a b : List Bool) (ha : a.length ≤ 50000) (hb : b.length ≤ 50000) (w : World) (h1 : Rx w 1 v1 a.length (a.map fun x => .bool x)) (h2 : Rx w 1 v2 b.length (b.map fun x => .bool x)) :
    Calls Tryz.prog 133 #[v1,v2] w fun e w'=>e= .returned (.bool (a==b))∧Below w.heap.size w w':=by
  obtain ⟨-,A,c,rfl,h1⟩:=h1
  obtain ⟨-,B,d,rfl,h2⟩:=h2
  by_cases h:a.length≠b.length∨a.length=0
  · exact equal_short eqBool_short a b ha hb h A B c d w
  · obtain ⟨g1,rfl, -,c1⟩:=h1 (by omega)
    obtain ⟨g2,rfl, -,c2⟩:=h2 (by omega)
    have hcon:=AnyE.slices_Equal Tryz.layEqBool (fun x=> .bool x) (fun x y=>x==y) (NeqAt.bool 4 Tryz.underlying4) g1 0 a.length c g2 0 b.length d a b w (Nat.le_refl _) (Nat.le_refl _) (by omega) (by omega) (fun j hj=>by
      rw [Nat.zero_add,c1 _ (by omega),List.getElem?_map,List.getElem?_eq_getElem hj,getElem!_pos a j hj];rfl) (fun j hj=>by
      rw [Nat.zero_add,c2 _ (by omega),List.getElem?_map,List.getElem?_eq_getElem hj,getElem!_pos b j hj];rfl)
    rw [List.take_length,List.take_length,allEq_items] at hcon
    refine Calls.mono hcon ?_
    rintro e w' ⟨rfl,q,rfl⟩
    exact ⟨rfl,below_drewN (Below.refl _ _) q⟩
end
section
open Go.RowKit
attribute [local go_sem ↓] Go.wp_at_zero Go.wp_at_succ
variable {ap : Value} {s : Ar} {O : Nat → Prop}
theorem bAll_calls (h : Int) (l : List Bool) (hr : bAll s h = some l) (hl : l.length ≤ 50000) (w : World) (hA : AP w ap s O) :
    Calls Tryz.prog 134 #[ap, .int .i64 h] w fun e w'=> ∃v,e= .returned v∧w'.ownsRow w.heap.size 4 1 v l.length (l.map fun x=> .bool x)∧Below w.heap.size w w':=by
  have hA0:=Lib.hid hA
  have hr':=Lib.hid hr
  have hlen:l.length=(bLen s h).toNat:=eachO_len _ _ _ hr
  clear hr
  go_enter Tryz.func134,Tryz.ntmps134
  go_wp2_with fail
  refine cg fun V hV_V=> ?_
  have hB:=Below.refl w.heap.size w
  refine nea0 hV_V hA hB ?_;clear hA hB;intro z_V hA hB
  clear hV_V
  refine rC (bLen_calls _ _ hA) fun W1 hb_W1=> ?_
  refine bea0 hb_W1 hA hB ?_;clear hb_W1 hA hB;intro z_W1 hA hB
  go_wp2_with fail
  refine wg fun V1 hV_V1=> ?_
  refine nea0 hV_V1 hA hB ?_;clear hA hB;intro z_V1 hA hB
  clear hV_V1
  go_loopg [5,12] (bLen s h).toNat (fun k p q wr=> ∃(i:Int) (d0 rest:List Bool),q= .int .i64 i∧0≤i∧i≤50000∧(d0.length:Int)=i∧k=(bLen s h - i).toNat∧Hid (eachO (fun i=>(bGet s h i).map (·.1)) k i=some rest)∧Hid (l=d0++rest)∧Hid (wr.ownsRow w.heap.size 4 1 p d0.length (d0.map fun x=> .bool x))∧Below w.heap.size w wr)
  case atStart=>exact ⟨0,[],l,rfl,by omega,by omega,rfl,by simp,hr',Lib.hid rfl,Lib.hid (own_nil _ _ _ _),hB⟩
  case round=>
    clear hA hB hr'
    obtain ⟨i,d0,rest,rfl,hi0,hi1,hdl,hk,He,Hl,Hown,hB0⟩:=hrel
    have hA:=hA0.out.below hB0
    by_cases hlt:i<bLen s h
    · have d1:decide (i<bLen s h)=true:=by simpa using hlt
      obtain ⟨k,rfl⟩: ∃k,gk=k+1:=⟨gk - 1,by omega⟩
      have he:=He.out
      unfold eachO at he
      obtain ⟨x,hx,he⟩:=Option.bind_eq_some_iff.1 he
      obtain ⟨rest',he',hrest⟩:=Option.bind_eq_some_iff.1 he
      obtain ⟨g,hg,hgx⟩:=Option.map_eq_some_iff.1 hx
      have hrest:=Option.some.inj hrest
      have hlx:l.length=d0.length+(1+rest'.length):=by rw [Hl.out,←hrest];simp;omega
      have Hg:=Lib.hid hg
      have Hx:=Lib.hid hgx
      have He':=Lib.hid he'
      have Hl':Hid (l=(d0++[x])++rest'):=Lib.hid (by rw [Hl.out,←hrest];simp)
      clear He Hl he hx he' hrest hg hgx
      have hw0:=hB0.size
      have HB0:=Lib.hid hB0;clear hB0
      have hB:=Below.refl wr.heap.size wr
      go_wp2_with fail
      refine cg fun V2 hV_V2=> ?_
      refine nea0 hV_V2 hA hB ?_;clear hA hB;intro z_V2 hA hB
      clear hV_V2
      refine rC (bGet_calls _ _ g Hg.out _ hA) fun W2 hb_W2=> ?_
      refine bea0 hb_W2 hA hB ?_;clear hb_W2 hA hB;intro z_W2 hA hB
      have Hbl:=Lib.hid (below_step HB0.out hB)
      have hown:=own_below Hown.out hB
      clear Hown
      go_wp2_with (at_builtin;refine wpList_push _ (by rfl) _ _ 128 (by rfl) (w.heap.size) 4 (.bool false) 1 1 Tryz.underlying128 (by kernel_rfl) (by rfl) (by omega) _ _ _ (by rfl) hown _ (by rfl) (by rfl) (by simp [Value.oneCell']) (by unfold maxLen;omega) (by omega) (by omega) ?_;intro g_W c_W W3 hown_W hlow_W hlt_W)
      have h1:wrap64 (i+1)=i+1:=IntWalk.wrap64_in _ (by omega)
      go_wp2_with fail
      go_roundg k
      case measure=>omega
      case rel=>
        refine ⟨i+1,d0++[x],rest',by rw [←h1],by omega,by omega,by simp;omega,by omega,He',Hl',?_,low_step Hbl.out (by omega) hlow_W⟩
        rw [List.map_append,List.length_append,←Hx.out]
        exact Lib.hid hown_W
    · have d1:decide (i<bLen s h)=false:=by simpa using hlt
      obtain rfl:gk=0:=by omega
      have he:=He.out
      unfold eachO at he
      obtain rfl:=Option.some.inj he
      have hl2:=Hl.out
      simp only [List.append_nil] at hl2
      have hn:d0.length=l.length:=by rw [hl2]
      clear He Hl he
      go_wp2_with fail
      go_ret
      refine ⟨u5,rfl,?_,hB0⟩
      rw [hl2];exact Hown.out
theorem wAll_calls (h : Int) (l : List Int) (hr : wAll s h = some l) (hl : l.length ≤ 50000) (w : World) (hA : AP w ap s O) :
    Calls Tryz.prog 131 #[ap, .int .i64 h] w fun e w'=> ∃v,e= .returned v∧w'.ownsRow w.heap.size 3 1 v l.length (l.map fun x=> .int .i64 x)∧Below w.heap.size w w':=by
  have hA0:=Lib.hid hA
  have hr':=Lib.hid hr
  have hlen:l.length=(wLen s h).toNat:=eachO_len _ _ _ hr
  clear hr
  go_enter Tryz.func131,Tryz.ntmps131
  go_wp2_with fail
  refine cg fun V hV_V=> ?_
  have hB:=Below.refl w.heap.size w
  refine nea0 hV_V hA hB ?_;clear hA hB;intro z_V hA hB
  clear hV_V
  refine rC (wLen_calls _ _ hA) fun W1 hb_W1=> ?_
  refine bea0 hb_W1 hA hB ?_;clear hb_W1 hA hB;intro z_W1 hA hB
  go_wp2_with fail
  refine wg fun V1 hV_V1=> ?_
  refine nea0 hV_V1 hA hB ?_;clear hA hB;intro z_V1 hA hB
  clear hV_V1
  go_loopg [5,12] (wLen s h).toNat (fun k p q wr=> ∃(i:Int) (d0 rest:List Int),q= .int .i64 i∧0≤i∧i≤50000∧(d0.length:Int)=i∧k=(wLen s h - i).toNat∧Hid (eachO (fun i=>(wGet s h i).map (·.1)) k i=some rest)∧Hid (l=d0++rest)∧Hid (wr.ownsRow w.heap.size 3 1 p d0.length (d0.map fun x=> .int .i64 x))∧Below w.heap.size w wr)
  case atStart=>exact ⟨0,[],l,rfl,by omega,by omega,rfl,by simp,hr',Lib.hid rfl,Lib.hid (own_nil _ _ _ _),hB⟩
  case round=>
    clear hA hB hr'
    obtain ⟨i,d0,rest,rfl,hi0,hi1,hdl,hk,He,Hl,Hown,hB0⟩:=hrel
    have hA:=hA0.out.below hB0
    by_cases hlt:i<wLen s h
    · have d1:decide (i<wLen s h)=true:=by simpa using hlt
      obtain ⟨k,rfl⟩: ∃k,gk=k+1:=⟨gk - 1,by omega⟩
      have he:=He.out
      unfold eachO at he
      obtain ⟨x,hx,he⟩:=Option.bind_eq_some_iff.1 he
      obtain ⟨rest',he',hrest⟩:=Option.bind_eq_some_iff.1 he
      obtain ⟨g,hg,hgx⟩:=Option.map_eq_some_iff.1 hx
      have hrest:=Option.some.inj hrest
      have hlx:l.length=d0.length+(1+rest'.length):=by rw [Hl.out,←hrest];simp;omega
      have Hg:=Lib.hid hg
      have Hx:=Lib.hid hgx
      have He':=Lib.hid he'
      have Hl':Hid (l=(d0++[x])++rest'):=Lib.hid (by rw [Hl.out,←hrest];simp)
      clear He Hl he hx he' hrest hg hgx
      have hw0:=hB0.size
      have HB0:=Lib.hid hB0;clear hB0
      have hB:=Below.refl wr.heap.size wr
      go_wp2_with fail
      refine cg fun V2 hV_V2=> ?_
      refine nea0 hV_V2 hA hB ?_;clear hA hB;intro z_V2 hA hB
      clear hV_V2
      refine rC (wGet_calls _ _ g Hg.out _ hA) fun W2 hb_W2=> ?_
      refine bea0 hb_W2 hA hB ?_;clear hb_W2 hA hB;intro z_W2 hA hB
      have Hbl:=Lib.hid (below_step HB0.out hB)
      have hown:=own_below Hown.out hB
      clear Hown
      go_wp2_with (at_builtin;refine wpList_push _ (by rfl) _ _ 43 (by rfl) (w.heap.size) 3 (.int .i64 0) 1 8 Tryz.underlying43 (by kernel_rfl) (by rfl) (by omega) _ _ _ (by rfl) hown _ (by rfl) (by rfl) (by simp [Value.oneCell']) (by unfold maxLen;omega) (by omega) (by omega) ?_;intro g_W c_W W3 hown_W hlow_W hlt_W)
      have h1:wrap64 (i+1)=i+1:=IntWalk.wrap64_in _ (by omega)
      go_wp2_with fail
      go_roundg k
      case measure=>omega
      case rel=>
        refine ⟨i+1,d0++[x],rest',by rw [←h1],by omega,by omega,by simp;omega,by omega,He',Hl',?_,low_step Hbl.out (by omega) hlow_W⟩
        rw [List.map_append,List.length_append,←Hx.out]
        exact Lib.hid hown_W
    · have d1:decide (i<wLen s h)=false:=by simpa using hlt
      obtain rfl:gk=0:=by omega
      have he:=He.out
      unfold eachO at he
      obtain rfl:=Option.some.inj he
      have hl2:=Hl.out
      simp only [List.append_nil] at hl2
      have hn:d0.length=l.length:=by rw [hl2]
      clear He Hl he
      go_wp2_with fail
      go_ret
      refine ⟨u5,rfl,?_,hB0⟩
      rw [hl2];exact Hown.out
end
end Go.Proofs.YtmlmnmkhigjaaaaGreat

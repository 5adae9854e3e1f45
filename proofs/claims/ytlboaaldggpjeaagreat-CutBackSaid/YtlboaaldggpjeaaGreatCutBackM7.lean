/- Part 7 of what CutBack needs: the walks of the program's functions, and plain facts. -/
import Derived.Test.YtlboaaldggpjeaaGreatCutBackM6
set_option linter.unusedSimpArgs false
set_option linter.unusedVariables false
set_option linter.unnecessarySimpa false
namespace Go.Proofs.YtlboaaldggpjeaaGreat
set_option maxRecDepth 100000
set_option maxHeartbeats 8000000
section
open Go.RowKit
theorem Rep.has {s:Ar} {h:Int} {t:Tr} (hr:Rep s h t) (h0:h≠0):s.has h=true:=by
  cases hr with
  | nil=>exact absurd rfl h0
  | nd h1 _ _ _ _ _=>exact h1
theorem node_live {s s':Ar} {H':List Int} (hI':Inv s' H') (hg:Grow s s') {h:Int} (hh:h≠0→s.has h=true) {k:Int} (hk:k∈(s.get h).kids) (h0:k≠0):s'.cnt k≠0:=by
  by_cases e:h=0
  · subst e
    rw [get_zero] at hk
    simp [Nd.kids,Nd.zero] at hk
    exact absurd hk h0
  · exact (hI'.kid_has (hg.has (hh e)).1 (by rw [(hg.has (hh e)).2];exact hk) h0).2
theorem Inv.keep' {s:Ar} {R:List Int} {k:Int} (h:Inv s R) (hl:R.length≤999990) (hk:k≠0→s.cnt k≠0):Inv (s.keep k) (k::R):=by
  by_cases h0:k=0
  · subst h0;rw [keep_zero];exact h.zero_cons (by omega)
  · exact h.keep (by omega) (hk h0)
theorem BitsR.ne {t:Tr} {l:List Bool} (h:BitsR t l) (hl:l≠[]) {s:Ar} {x:Int} (hr:Rep s x t):x≠0:=by
  rcases h.cases with ⟨-,h⟩|h
  · exact absurd h hl
  · exact hr.ne_of h
theorem wMade_ok {s:Ar} {n:Nd} (h0:n.k0≠0):wMade s n 0=((Tb.nodeD ⟨s,0⟩ n n.kids).1,(Tb.nodeD ⟨s,0⟩ n n.kids).2.e,(Tb.nodeD ⟨s,0⟩ n n.kids).2.s):=by
  unfold wMade Tb.nodeD
  rw [if_pos ⟨rfl,h0⟩,if_pos rfl]
theorem wMade_bad {s:Ar} {n:Nd} {e:Int} (h0:e≠0):wMade s n e=(0,e,s.dropAll n.kids):=by
  unfold wMade
  rw [if_neg (fun h=>h0 h.1)]
theorem made_rs {s : Ar} {n : Nd} {H : List Int} {P : Tr → Prop} (hI : Inv s (n.kids ++ H)) (hH : H.length ≤ 990000) (h0 : n.k0 ≠ 0) (ht : 1 ≤ n.tag ∧ n.tag ≤ 6) (hn : U64 n.a)
    (hp: ∀s' h,Grow s s'→s'.has h=true→s'.get h=n→ ∃t,Rep s' h t∧P t):Rs s (wMade s n 0) H 1 P:=by
  obtain ⟨a,b⟩:=nodeD_nw (t:=⟨s,0⟩) (n:=n) (l:=n.kids) hI (by simp [Nd.kids]) (by omega) ht hn (fun _ k hk _=>hk)
  rw [wMade_ok h0]
  generalize Tb.nodeD ⟨s,0⟩ n n.kids=r at a b⊢
  by_cases he:r.2.e=0
  · exact ⟨a.inv,a.grow,a.cost, .inl ⟨he,hp _ _ a.grow (b he).2.1 (b he).2.2⟩⟩
  · exact ⟨a.inv,a.grow,a.cost, .inr ⟨(a.full rfl he).1,a.bad he,(a.full rfl he).2⟩⟩
theorem wInsertL_T : ∀ {d : Nat} {s : Ar} {H : List Int} {h : Int} {l : List Int} {i x : Int}, Inv s H → H.length + d ≤ 800000 → WR s d h l → d ≤ 9 → 0 ≤ i → i ≤ l.length → 0 ≤ x ∧ x < 257 →
    ∃r,wInsertL d s h i x=some r∧Rs s r H (d*(l.length+4)) fun t=>WaveT d t (insA l i.toNat x)
  | 0,s,H,h,l,i,x,hI,hH,hw,hd,h0,hi,hx=>⟨_,rfl,hI.zero_cons (by omega),Grow.refl s,Nat.le_add_right _ _, .inl ⟨rfl, .nil, .nil, .none⟩⟩
  | d+1,s,H,h,l,i,x,hI,hH,hw,hd,h0,hi,hx=>by
    obtain ⟨hb,hk⟩:=hw.kids hI
    have hhas:h≠0→s.has h=true:=by obtain ⟨t,hr, -⟩:=hw.ex;exact hr.has
    have hs:=hw.short
    have hbe:symBit x (8 - (d:Int))=bitD d x:=rfl
    have hFl:=F_le d (bitD d x) l
    have hFi:(F d (bitD d x) (l.take i.toNat)).length≤(F d (bitD d x) l).length:=by
      have h2:=congrArg List.length (filter_take (fun y=>bitD d y==bitD d x) l i.toNat)
      rw [List.length_take] at h2
      unfold F;omega
    unfold wInsertL
    dsimp only
    rw [hbe,alike_F hI hb i _ h0 hi,Option.bind_some]
    obtain ⟨u,hu,hU⟩:=wInsertL_T (d:=d) (h:=(s.get h).kid (bitD d x)) (i:=(((F d (bitD d x) (l.take i.toNat)).length:Nat):Int)) (x:=x) hI (by omega) (hk _) (by omega) (by omega) (by omega) hx
    rw [hu,Option.bind_some]
    have hc1:d*((F d (bitD d x) l).length+4)≤d*(l.length+4):=Nat.mul_le_mul_left d (by omega)
    have hc2:(d+1)*(l.length+4)=d*(l.length+4)+(l.length+4):=by rw [Nat.add_mul,Nat.one_mul]
    rw [hc2]
    generalize (d+1)*(l.length+4)=C2 at hc2
    generalize d*(l.length+4)=C1 at hc1 hc2⊢
    rcases hU.res with ⟨u0,t',hr',ht'⟩|⟨u0,u1,u2⟩
    · rw [if_pos u0]
      rw [Int.toNat_natCast] at ht'
      have ho: ∀{s':Ar} {H':List Int},Inv s' H'→Grow s s'→(s.get h).kid (!bitD d x)≠0→s'.cnt ((s.get h).kid (!bitD d x))≠0:=fun hI' hg'=>node_live hI' hg' hhas (by
        unfold Nd.kid;cases bitD d x
        · exact kid_mem.2.2.1
        · exact kid_mem.2.1)
      have j1:=hU.inv.keep' (k:=(s.get h).kid (!bitD d x)) (by simp;omega) (ho hU.inv hU.grow)
      have g1:=hU.grow.trans (Grow.keep u.2.2 ((s.get h).kid (!bitD d x)))
      have hb':=hb.grow g1 (node_live j1 g1 hhas kid_mem.1)
      obtain ⟨r,hr,hR⟩:=bInsert_R j1 (by simp;omega) hb' i (bitD d x) h0 (by simpa using hi)
      rw [hr,Option.bind_some]
      have hlen:(insL (l.map (bitD d)) i.toNat (bitD d x)).length=l.length+1:=by rw [insL_length' _ _ _ (by simp;omega)];simp
      have hRc:=hR.cost
      rw [List.length_map,busyN_keep] at hRc
      have hUc:=hU.cost
      obtain ⟨to,ho1,ho2⟩:=(hk (!bitD d x)).ex
      have eqn:(⟨3,r.1,if bitD d x=true then (s.get h).k1 else u.1,if bitD d x=true then u.1 else (s.get h).k2,0,0,0⟩:Nd)=⟨3,r.1,if bitD d x=true then (s.get h).kid (!bitD d x) else u.1,if bitD d x=true then u.1 else (s.get h).kid (!bitD d x),0,0,0⟩:=by
        cases bitD d x<;>rfl
      rw [eqn]
      have hperm:Inv r.2.2 ((⟨3,r.1,if bitD d x=true then (s.get h).kid (!bitD d x) else u.1,if bitD d x=true then u.1 else (s.get h).kid (!bitD d x),0,0,0⟩:Nd).kids++H):=by
        have h0:=hR.inv.zero_cons (by simp;omega)
        refine h0.perm ?_
        cases bitD d x
        · exact (List.Perm.swap _ _ _).trans (List.Perm.cons _ ((List.Perm.swap _ _ _).trans (((List.Perm.swap _ _ _).trans (List.Perm.cons _ (List.Perm.swap _ _ _)))|>.trans (List.Perm.swap _ _ _)|>.trans (List.Perm.cons _ (List.Perm.swap _ _ _)))))
        · exact (List.Perm.swap _ _ _).trans (List.Perm.cons _ ((List.Perm.swap _ _ _).trans (List.Perm.cons _ (List.Perm.swap _ _ _))))
      rcases hR.res with ⟨r0,tb,hrb,htb⟩|⟨r0,r1,r2⟩
      · rw [r0]
        have hrne:r.1≠0:=htb.ne (by intro e;rw [e] at hlen;simp at hlen) hrb
        have hm:=made_rs (P:=fun t=>WaveT (d+1) t (insA l i.toNat x)) hperm (by omega) hrne ⟨by dsimp only;omega,by dsimp only;omega⟩ U64.zero (fun s' h' g' a b=>by
          have gu:Grow u.2.2 s':=((Grow.keep _ _).trans hR.grow).trans g'
          have go:Grow s s':=(g1.trans hR.grow).trans g'
          have hne:insA l i.toNat x≠[]:=by intro e;have:=insA_length l i.toNat x (by omega);rw [e] at this;simp at this
          have hbits:BitsR tb ((insA l i.toNat x).map (bitD d)):=by rw [insA_map];exact htb
          have hin:F d (bitD d x) (insA l i.toNat x)=insA (F d (bitD d x) l) (F d (bitD d x) (l.take i.toNat)).length x:=insA_filter_in _ _ _ _ (by simp)
          have hout:F d (!bitD d x) (insA l i.toNat x)=F d (!bitD d x) l:=insA_filter_out _ _ _ _ (by simp)
          rw [←hin] at ht'
          rw [←hout] at ho2
          cases hbx:bitD d x with
          | false=>
            rw [hbx] at b ht' ho2 ho1
            exact ⟨_, .nd a b (hrb.grow g') (hr'.grow gu) (ho1.grow go) .nil, .node hne hbits ht' ho2⟩
          | true=>
            rw [hbx] at b ht' ho2 ho1
            exact ⟨_, .nd a b (hrb.grow g') (ho1.grow go) (hr'.grow gu) .nil, .node hne hbits ho2 ht'⟩)
        have hmc:=hm.cost
        refine ⟨_,rfl,hm.inv,(g1.trans hR.grow).trans hm.grow,by omega,hm.res.imp id fun q=>⟨q.1,q.2.1,?_⟩⟩
        have:=q.2.2
        have:=hU.grow.size
        have:=hR.grow.size
        have:=Ar.keep_size u.2.2 ((s.get h).kid (!bitD d x))
        omega
      · rw [wMade_bad (show r.2.1≠0 by omega)]
        refine ⟨_,rfl,(Inv.dropAll hperm).zero_cons (by omega),(g1.trans hR.grow).trans (Grow.dropAll _ _),by show (r.2.2.dropAll _).busyN≤_;rw [busyN_dropAll];omega, .inr ⟨r0,rfl,?_⟩⟩
        have:=hU.grow.size
        rw [Ar.keep_size,busyN_keep,List.length_map] at r2
        omega
    · rw [if_neg (by omega)]
      refine ⟨_,rfl,?_,hU.grow,by have:=hU.cost;show u.2.2.busyN≤_;omega, .inr ⟨u0,rfl,by omega⟩⟩
      have:=hU.inv
      rw [u1] at this;exact this
theorem wInsert_R {s : Ar} {H : List Int} (hI : Inv s H) (hH : H.length ≤ 700000) {h : Int} {l : List Int} (hw : WR s 9 h l) (i x : Int) (h0 : 0 ≤ i) (hi : i ≤ l.length) (hx : 0 ≤ x ∧ x < 257) :
    ∃r,wInsert s h i x=some r∧Rs s r H (9*(l.length+4)) fun t=>WaveT 9 t (insA l i.toNat x):=by
  unfold wInsert
  rw [if_pos (by simp [wIs,hx.1,hx.2]),hw.len hI,if_neg (by omega)]
  exact wInsertL_T hI (by omega) hw (by omega) h0 hi hx
theorem WaveT.size1 {d:Nat} {t:Tr} {l:List Int} (h:WaveT d t l):t.size≤2*d*l.length:=by
  induction h with
  | none=>simp [Tr.size]
  | nil=>simp [Tr.size]
  | @node d tb t0 t1 l hne hb _ _ i0 i1=>
    have h1:=hb.size
    have h2:=F_split d l
    have h3:=List.length_pos_iff.2 hne
    rw [List.length_map] at h1
    have h4:2*d*(F d false l).length+2*d*(F d true l).length=2*d*l.length:=by rw [←Nat.mul_add,h2]
    have h5:2*(d+1)*l.length=2*d*l.length+2*l.length:=by rw [Nat.mul_add,Nat.add_mul]
    simp only [Tr.size]
    omega
theorem WaveT.size2: ∀{e d:Nat} {t:Tr} {l:List Int},WaveT (d+e) t l→8*t.size+16≤16*2 ^ e+e*l.length+16*(d*l.length)
  | 0,d,t,l,h=>by
    have:=h.size1
    rw [Nat.add_zero,Nat.mul_assoc] at this
    omega
  | e+1,d,t,l,h=>by
    have h1:=Nat.two_pow_pos e
    have hp:2 ^ (e+1)=2*2 ^ e:=by rw [Nat.pow_succ];omega
    rw [show d+(e+1)=(d+e)+1 by omega] at h
    cases h with
    | nil=>simp [Tr.size];omega
    | @node _ tb t0 t1 _ hne hb h0 h1'=>
      have i0:=WaveT.size2 h0
      have i1:=WaveT.size2 h1'
      have hbs:=hb.size
      have h2:=F_split (d+e) l
      rw [List.length_map] at hbs
      have h4:d*(F (d+e) false l).length+d*(F (d+e) true l).length=d*l.length:=by rw [←Nat.mul_add,h2]
      have h5:e*(F (d+e) false l).length+e*(F (d+e) true l).length=e*l.length:=by rw [←Nat.mul_add,h2]
      have h6:(e+1)*l.length=e*l.length+l.length:=by rw [Nat.add_mul,Nat.one_mul]
      rw [h6,hp]
      simp only [Tr.size]
      omega
theorem WaveT.size {t:Tr} {l:List Int} (h:WaveT 9 t l):8*t.size≤2032+39*l.length:=by
  have:=WaveT.size2 (e:=7) (d:=2) h
  omega
end
section
open Go.RowKit
def ItOk (x:Int×Int):Prop:=(0≤x.1∧x.1<9223372036854775808)∧0≤x.2∧x.2<9223372036854775808
inductive ListT:Tr→List (Int×Int)→Prop where
  | item {x:Int×Int}:ItOk x→ListT (.nd 4 x.1 x.2 .nil .nil .nil .nil) [x]
  | join {t0 t1:Tr} {l0 l1:List (Int×Int)}:ListT t0 l0→ListT t1 l1→ListT (.nd 5 ((l0++l1).length) 0 t0 t1 .nil .nil) (l0++l1)
theorem ListT.ne {t:Tr} {l:List (Int×Int)} (h:ListT t l):l≠[]:=by
  induction h with
  | item _=>simp
  | join _ _ i0 _=>exact fun e=>i0 (List.append_eq_nil_iff.1 e).1
theorem ListT.pos {t:Tr} {l:List (Int×Int)} (h:ListT t l):1≤l.length:=List.length_pos_iff.2 h.ne
theorem ListT.size {t:Tr} {l:List (Int×Int)} (h:ListT t l):t.size+1=2*l.length:=by
  induction h with
  | item _=>rfl
  | join _ _ i0 i1=>simp [Tr.size];omega
def ListR (t:Tr) (l:List (Int×Int)):Prop:=(t= .nil∧l=[])∨ListT t l
theorem ListR.size {t:Tr} {l:List (Int×Int)} (h:ListR t l):t.size≤2*l.length:=by
  rcases h with ⟨rfl,rfl⟩|h
  · exact Nat.le_refl _
  · have:=h.size;omega
theorem u64_ok {x:Int} (h:0≤x∧x<9223372036854775808):u64 x=x:=u64_in h.1 (by omega)
theorem w64_ok {x:Int} (h:0≤x∧x<9223372036854775808):wrap64 x=x:=IntWalk.wrap64_in _ (by omega)
theorem Rep.ne_ofL {s:Ar} {h:Int} {t:Tr} {l:List (Int×Int)} (hr:Rep s h t) (hb:ListT t l):h≠0:=by
  cases hb<;>exact hr.ne
theorem lIs_nd {s:Ar} {H:List Int} (hI:Inv s H) {h:Int} {t:Tr} {l:List (Int×Int)} (hr:Rep s h t) (hb:ListT t l) (hc:s.cnt h≠0):lIs s h=true:=by
  cases hb with
  | item _=>
    obtain ⟨_,_,_,_,hh,hg, -⟩:=hr.get
    simp [lIs,hh,hg,hI.cpos hh hc]
  | join _ _=>
    obtain ⟨_,_,_,_,hh,hg, -⟩:=hr.get
    simp [lIs,hh,hg,hI.cpos hh hc]
theorem lIs_zero (s:Ar):lIs s 0=false:=by simp [lIs,has_zero]
theorem lLen_zero (s:Ar):lLen s 0=0:=by unfold lLen;rw [lIs_zero];rfl
theorem lLen_T {s:Ar} {H:List Int} (hI:Inv s H) {h:Int} {t:Tr} {l:List (Int×Int)} (hr:Rep s h t) (hb:ListT t l) (hc:s.cnt h≠0) (hl:l.length≤1000000):lLen s h=l.length:=by
  unfold lLen
  rw [if_pos (lIs_nd hI hr hb hc)]
  cases hb with
  | item _=>
    obtain ⟨_,_,_,_,hh,hg, -⟩:=hr.get
    rw [hg];simp
  | join _ _=>
    obtain ⟨_,_,_,_,hh,hg, -⟩:=hr.get
    rw [hg]
    dsimp only
    rw [if_neg (by omega),w64n _ hl]
theorem lGetL_T {s:Ar} {H:List Int} (hI:Inv s H) {t:Tr} {l:List (Int×Int)} (hb:ListT t l): ∀{k:Nat} {h i:Int},Rep s h t→s.cnt h≠0→l.length≤1000000→l.length≤k→0≤i→i<l.length→lGetL k s h i=some (l.getD i.toNat (0,0)):=by
  induction hb with
  | @item x hx=>
    intro k h i hr hc hl hk h0 hi
    simp only [List.length_cons,List.length_nil] at hk hi
    obtain ⟨k,rfl⟩: ∃j,k=j+1:=⟨k - 1,by omega⟩
    obtain ⟨_,_,_,_,hh,hg, -⟩:=hr.get
    unfold lGetL
    rw [hg]
    dsimp only
    rw [if_neg (by omega),w64_ok hx.1,w64_ok hx.2,show i.toNat=0 by omega]
    rfl
  | @join t0 t1 l0 l1 b0 b1 i0 i1=>
    intro k h i hr hc hl hk h0 hi
    have p0:=b0.pos;have p1:=b1.pos
    rw [List.length_append] at hl hk hi
    obtain ⟨k,rfl⟩: ∃j,k=j+1:=⟨k - 1,by omega⟩
    obtain ⟨x,y,_,_,hh,hg,r0,r1, -⟩:=hr.get
    obtain ⟨c0,c1, -⟩:=hI.kids_of hh hg
    unfold lGetL
    rw [hg]
    dsimp only
    rw [if_pos rfl,lLen_T hI r0 b0 (c0 (r0.ne_ofL b0)) (by omega)]
    by_cases hlow:(l0.length:Int)≤i
    · rw [if_pos hlow,w64 (by omega) (by omega),i1 r1 (c1 (r1.ne_ofL b1)) (by omega) (by omega) (by omega) (by omega)]
      rw [List.getD_eq_getElem?_getD,List.getD_eq_getElem?_getD,List.getElem?_append_right (by omega)]
      congr 3;omega
    · rw [if_neg hlow,i0 r0 (c0 (r0.ne_ofL b0)) (by omega) (by omega) (by omega) (by omega)]
      rw [List.getD_eq_getElem?_getD,List.getD_eq_getElem?_getD,List.getElem?_append_left (by omega)]
structure LR (s:Ar) (h:Int) (l:List (Int×Int)):Prop where
  ex: ∃t,Rep s h t∧ListR t l
  live:h≠0→s.cnt h≠0
  short:l.length≤4000
theorem LR.cases {s:Ar} {h:Int} {l:List (Int×Int)} (hb:LR s h l):(h=0∧l=[])∨ ∃t,Rep s h t∧ListT t l∧s.cnt h≠0:=by
  obtain ⟨t,h1,h2⟩:=hb.ex
  rcases h2 with ⟨rfl,rfl⟩|h2
  · exact .inl ⟨h1.zero,rfl⟩
  · exact .inr ⟨t,h1,h2,hb.live (h1.ne_ofL h2)⟩
theorem LR.len {s:Ar} {H:List Int} (hI:Inv s H) {h:Int} {l:List (Int×Int)} (hb:LR s h l):lLen s h=l.length:=by
  rcases hb.cases with ⟨rfl,rfl⟩|⟨t,h1,h2,h3⟩
  · exact lLen_zero s
  · exact lLen_T hI h1 h2 h3 (by have:=hb.short;omega)
theorem LR.get {s:Ar} {H:List Int} (hI:Inv s H) {h:Int} {l:List (Int×Int)} (hb:LR s h l) (i:Int):lGet s h i=if i<0∨(l.length:Int)≤i then some ((0,0),false) else some (l.getD i.toNat (0,0),true):=by
  unfold lGet
  rw [hb.len hI]
  by_cases hi:i<0∨(l.length:Int)≤i
  · rw [if_pos hi,if_pos hi]
  · rw [if_neg hi,if_neg hi]
    have:=hb.short
    rcases hb.cases with ⟨rfl,rfl⟩|⟨t,h1,h2,h3⟩
    · exact absurd hi (by simp only [List.length_nil];omega)
    · rw [lGetL_T hI h2 h1 h3 (by omega) (by unfold rounds;omega) (by omega) (by omega)];rfl
theorem eachO_T {α:Type} (f:Int→Option α) (l:List α): ∀(d:Nat) (i:Nat),i+d=l.length→(∀j:Nat,i≤j→ ∀x,l[j]? =some x→f (j:Int)=some x)→eachO f d (i:Int)=some (l.drop i)
  | 0,i,hd,h=>by unfold eachO;rw [List.drop_of_length_le (by omega)]
  | d+1,i,hd,h=>by
    unfold eachO
    obtain ⟨x,hx⟩: ∃x,l[i]? =some x:=⟨_,List.getElem?_eq_getElem (by omega)⟩
    obtain ⟨h1,h2⟩:=List.getElem?_eq_some_iff.1 hx
    rw [h i (Nat.le_refl _) x hx,Option.bind_some,show ((i:Int)+1)=((i+1:Nat):Int) by omega,eachO_T f l d (i+1) (by omega) (fun j hj=>h j (by omega)),Option.bind_some,List.drop_eq_getElem_cons h1,h2]
theorem LR.all {s:Ar} {H:List Int} (hI:Inv s H) {h:Int} {l:List (Int×Int)} (hb:LR s h l):lAll s h=some l:=by
  unfold lAll
  rw [hb.len hI,Int.toNat_natCast]
  have:=eachO_T (fun i=>(lGet s h i).map (·.1)) l l.length 0 (by omega) (fun j _ x hx=>by
    obtain ⟨h1,h2⟩:=List.getElem?_eq_some_iff.1 hx
    rw [hb.get hI,if_neg (by omega),Int.toNat_natCast,List.getD_eq_getElem?_getD,hx];rfl)
  simpa using this
theorem WR.all {s:Ar} {H:List Int} (hI:Inv s H) {h:Int} {l:List Int} (hw:WR s 9 h l):wAll s h=some l:=by
  unfold wAll
  rw [hw.len hI,Int.toNat_natCast]
  have:=eachO_T (fun i=>(wGet s h i).map (·.1)) l l.length 0 (by omega) (fun j _ x hx=>by
    obtain ⟨h1,h2⟩:=List.getElem?_eq_some_iff.1 hx
    rw [hw.get hI,if_neg (by omega),Int.toNat_natCast,List.getD_eq_getElem?_getD,hx];rfl)
  simpa using this
theorem BR.all {s:Ar} {H:List Int} (hI:Inv s H) {h:Int} {l:List Bool} (hw:BR s h l):bAll s h=some l:=by
  unfold bAll
  rw [hw.len hI,Int.toNat_natCast]
  have:=eachO_T (fun i=>(bGet s h i).map (·.1)) l l.length 0 (by omega) (fun j _ x hx=>by
    obtain ⟨h1,h2⟩:=List.getElem?_eq_some_iff.1 hx
    rw [hw.get hI,if_neg (by omega),Int.toNat_natCast,List.getD_eq_getElem?_getD,hx];rfl)
  simpa using this
theorem item_T {t : Tb} {H : List Int} (hI : Inv t.s H) (hH : H.length ≤ 990000) {x : Int × Int} (hx : ItOk x) :
    Nw t (t.item x).2 (t.item x).1 H 1∧((t.item x).2.e=0→ ∃t',Rep (t.item x).2.s (t.item x).1 t'∧ListT t' [x]):=by
  obtain ⟨a,b⟩:=nodeD_nw (t:=t) (n:=⟨4,0,0,0,0,u64 x.1,u64 x.2⟩) (l:=[0,0]) ((hI.zero_cons (by omega)).zero_cons (by simp;omega)) (by simp) (by omega) ⟨by dsimp only;omega,by dsimp only;omega⟩ (U64.u64 _) (by simp [Nd.kids])
  refine ⟨a,fun he=> ?_⟩
  obtain ⟨-,b2,b3⟩:=b he
  exact ⟨_, .nd b2 (b3.trans (by rw [u64_ok hx.1,u64_ok hx.2])) .nil .nil .nil .nil, .item hx⟩
theorem lpair_T {t : Tb} {x y : Int} {H : List Int} (hI : Inv t.s (x :: y :: H)) (hH : H.length ≤ 990000) {l0 l1 : List (Int × Int)} (hl : (l0 ++ l1).length ≤ 1000000)
    (h:t.e=0→(∃t0,Rep t.s x t0∧ListT t0 l0)∧ ∃t1,Rep t.s y t1∧ListT t1 l1):
    Nw t (t.lpair x y).2 (t.lpair x y).1 H 1∧((t.lpair x y).2.e=0→ ∃t',Rep (t.lpair x y).2.s (t.lpair x y).1 t'∧ListT t' (l0++l1)):=by
  obtain ⟨a,b⟩:=nodeD_nw (t:=t) (n:=⟨5,x,y,0,0,u64 (wrap64 (lLen t.s x+lLen t.s y)),0⟩) (l:=[x,y]) hI (by simp) (by omega) ⟨by dsimp only;omega,by dsimp only;omega⟩ (U64.u64 _) (fun _ k hk h0=>by
    simp [Nd.kids] at hk
    rcases hk with rfl|rfl|hk
    · simp
    · simp
    · exact absurd hk h0)
  refine ⟨a,fun he=> ?_⟩
  obtain ⟨b1,b2,b3⟩:=b he
  obtain ⟨⟨t0,r0,q0⟩,t1,r1,q1⟩:=h b1
  have c0:t.s.cnt x≠0:=hI.pos (by simp) (r0.ne_ofL q0)
  have c1:t.s.cnt y≠0:=hI.pos (by simp) (r1.ne_ofL q1)
  rw [List.length_append] at hl
  refine ⟨_, .nd b2 ?_ (r0.grow a.grow) (r1.grow a.grow) .nil .nil, .join q0 q1⟩
  refine b3.trans ?_
  rw [lLen_T hI r0 q0 c0 (by omega),lLen_T hI r1 q1 c1 (by omega),w64 (by omega) (by omega),u64_in (by omega) (by omega)]
  simp
theorem lHigh_zero (s:Ar):lHigh rounds s 0=some 0:=by
  rw [show rounds=9999+1 from rfl]
  unfold lHigh
  rw [if_neg (by rw [lIs_zero];decide)]
theorem lHigh_T {s : Ar} {H : List Int} (hI : Inv s H) {t : Tr} {l : List (Int × Int)} (hb : ListT t l) : ∀ {k : Nat} {h : Int}, Rep s h t → s.cnt h ≠ 0 → l.length ≤ 1000000 → l.length < k →
    ∃p,lHigh k s h=some p∧1≤p∧p≤l.length∧(p≠1→ ∃a b t0 t1 l0 l1,t= .nd 5 a b t0 t1 .nil .nil∧l=l0++l1∧ListT t0 l0∧ListT t1 l1):=by
  induction hb with
  | @item x hx=>
    intro k h hr hc hl hk
    obtain ⟨k,rfl⟩: ∃j,k=j+1:=⟨k - 1,by omega⟩
    have hi:=lIs_nd hI hr (.item hx) hc
    obtain ⟨_,_,_,_,hh,hg, -⟩:=hr.get
    refine ⟨1,?_,by omega,by simp,fun h=>absurd rfl h⟩
    unfold lHigh
    rw [if_pos hi,hg]
    dsimp only
    rw [if_pos rfl]
  | @join t0 t1 l0 l1 b0 b1 i0 i1=>
    intro k h hr hc hl hk
    have p0:=b0.pos;have p1:=b1.pos
    rw [List.length_append] at hl hk
    obtain ⟨k,rfl⟩: ∃j,k=j+1:=⟨k - 1,by omega⟩
    have hi:=lIs_nd hI hr (.join b0 b1) hc
    obtain ⟨x,y,_,_,hh,hg,r0,r1, -⟩:=hr.get
    obtain ⟨c0,c1, -⟩:=hI.kids_of hh hg
    obtain ⟨p,e0,e1,e2, -⟩:=i0 r0 (c0 (r0.ne_ofL b0)) (by omega) (k:=k) (by omega)
    obtain ⟨q,f0,f1,f2, -⟩:=i1 r1 (c1 (r1.ne_ofL b1)) (by omega) (k:=k) (by omega)
    have hw:wrap64 (1+imax p q)=1+imax p q:=w64 (by unfold imax;split<;>omega) (by unfold imax;split<;>omega)
    refine ⟨1+imax p q,?_,by unfold imax;split<;>omega,by rw [List.length_append];unfold imax;split<;>omega,fun _=>⟨_,_,_,_,_,_,rfl,rfl,b0,b1⟩⟩
    unfold lHigh
    rw [if_pos hi,hg]
    dsimp only
    rw [if_neg (by omega),e0,f0]
    simp only [Option.bind_some,hw]
theorem join_T {t : Tb} {x y : Int} {H : List Int} (hI : Inv t.s (x :: y :: H)) (hH : H.length ≤ 980000) {l0 l1 : List (Int × Int)} (hl : (l0 ++ l1).length ≤ 9900) (he : t.e = 0) {t0 t1 : Tr} (r0 : Rep t.s x t0) (q0 : ListT t0 l0) (r1 : Rep t.s y t1) (q1 : ListT t1 l1) :
    ∃r,t.join x y=some r∧Nw t r.2 r.1 H 3∧(r.2.e=0→ ∃t',Rep r.2.s r.1 t'∧ListT t' (l0++l1)):=by
  unfold Tb.join
  have c0:t.s.cnt x≠0:=hI.pos (by simp) (r0.ne_ofL q0)
  have c1:t.s.cnt y≠0:=hI.pos (by simp) (r1.ne_ofL q1)
  rw [List.length_append] at hl
  obtain ⟨p,e0,e1,e2,e3⟩:=lHigh_T hI q0 (k:=rounds) r0 c0 (by omega) (by unfold rounds;omega)
  obtain ⟨q,f0,f1,f2,f3⟩:=lHigh_T hI q1 (k:=rounds) r1 c1 (by omega) (by unfold rounds;omega)
  rw [e0,f0,Option.bind_some,Option.bind_some,if_pos he,if_neg (by intro h;rcases h with h|h;exact r0.ne_ofL q0 h;exact r1.ne_ofL q1 h),w64 (x:=q+1) (by omega) (by omega),w64 (x:=p+1) (by omega) (by omega)]
  by_cases hA:q+1<p
  · rw [if_pos hA]
    obtain ⟨a,b,u,v,lu,lv,rfl,rfl,qu,qv⟩:=e3 (by omega)
    obtain ⟨o1,o2,o3,o4,o5,o6⟩:=opened_T hI (by simp;omega) r0
    rw [List.length_append] at hl
    have cu:(t.opened x).s.cnt (t.s.get x).k0≠0:=o1.pos (by simp) (o5.ne_ofL qu)
    have cv:(t.opened x).s.cnt (t.s.get x).k1≠0:=o1.pos (by simp) (o6.ne_ofL qv)
    obtain ⟨pu,g0,g1,g2,g3⟩:=lHigh_T o1 qu (k:=rounds) o5 cu (by omega) (by unfold rounds;omega)
    obtain ⟨pv,j0,j1,j2,j3⟩:=lHigh_T o1 qv (k:=rounds) o6 cv (by omega) (by unfold rounds;omega)
    dsimp only
    rw [g0,j0,Option.bind_some,Option.bind_some]
    have nO:Nw t (t.opened x) (t.s.get x).k0 ((t.s.get x).k1::y::H) 0:=⟨o1,o2,fun e=>absurd (o4.trans he) e,fun e=>absurd he e,by omega,fun _ e=>absurd (o4.trans he) e⟩
    by_cases hB:pv≤pu
    · rw [if_pos hB]
      obtain ⟨n1,s1⟩:=lpair_T (t:=t.opened x) (x:=(t.s.get x).k1) (y:=y) (H:=(t.s.get x).k0::H) (l0:=lv) (l1:=l1) (o1.perm ((List.Perm.swap _ _ _).trans ((List.Perm.swap _ _ _).cons _))) (by simp;omega) (by simp;omega) (fun _=>⟨⟨_,o6,qv⟩,_,r1.grow o2,q1⟩)
      obtain ⟨n2,s2⟩:=lpair_T (l0:=lu) (l1:=lv++l1) n1.inv.swap (by omega) (by simp;omega) (fun e=>⟨⟨_,o5.grow n1.grow,qu⟩,s1 e⟩)
      exact ⟨_,rfl,((nO.trans n1).trans n2).mono (by omega),fun e=>by rw [List.append_assoc];exact s2 e⟩
    · rw [if_neg hB]
      obtain ⟨a',b',w,z,lw,lz,rfl,rfl,qw,qz⟩:=j3 (by omega)
      obtain ⟨v1,v2,v3,v4,v5,v6⟩:=opened_T (t:=t.opened x) (x:=(t.s.get x).k1) (H:=(t.s.get x).k0::y::H) o1.swap (by simp;omega) o6
      rw [List.length_append] at hl
      obtain ⟨n1,s1⟩:=lpair_T (t:=(t.opened x).opened (t.s.get x).k1) (x:=(t.s.get x).k0) (y:=((t.opened x).s.get (t.s.get x).k1).k0) (H:=((t.opened x).s.get (t.s.get x).k1).k1::y::H) (l0:=lu) (l1:=lw)
        (v1.perm (((List.Perm.swap _ _ _).cons _).trans ((List.Perm.swap _ _ _).trans ((List.Perm.refl _).cons _)))) (by simp;omega) (by simp;omega) (fun _=>⟨⟨_,o5.grow v2,qu⟩,_,v5,qw⟩)
      obtain ⟨n2,s2⟩:=lpair_T (x:=((t.opened x).s.get (t.s.get x).k1).k1) (y:=y) (H:=(((t.opened x).opened (t.s.get x).k1).lpair (t.s.get x).k0 ((t.opened x).s.get (t.s.get x).k1).k0).1::H) (l0:=lz) (l1:=l1) (n1.inv.perm ((List.Perm.swap _ _ _).trans ((List.Perm.swap _ _ _).cons _))) (by simp;omega) (by simp;omega) (fun e=>⟨⟨_,v6.grow n1.grow,qz⟩,_,(r1.grow (o2.trans v2)).grow n1.grow,q1⟩)
      obtain ⟨n3,s3⟩:=lpair_T (l0:=lu++lw) (l1:=lz++l1) n2.inv.swap (by omega) (by simp;omega) (fun e=>by
        obtain ⟨z0,z1,z2⟩:=s1 (n2.ok e)
        exact ⟨⟨z0,z1.grow n2.grow,z2⟩,s2 e⟩)
      have nP:Nw (t.opened x) ((t.opened x).opened (t.s.get x).k1) ((t.opened x).s.get (t.s.get x).k1).k0 (((t.opened x).s.get (t.s.get x).k1).k1::(t.s.get x).k0::y::H) 0:=⟨v1,v2,fun e=>absurd (v4.trans (o4.trans he)) e,fun e=>absurd (o4.trans he) e,by omega,fun _ e=>absurd (v4.trans (o4.trans he)) e⟩
      refine ⟨_,rfl,((((nO.trans nP).trans n1).trans n2).trans n3).mono (by omega),fun e=> ?_⟩
      have:=s3 e
      rw [show (lu++(lw++lz))++l1=(lu++lw)++(lz++l1) by simp]
      exact this
  rw [if_neg hA]
  by_cases hA':p+1<q
  · rw [if_pos hA']
    obtain ⟨a,b,u,v,lu,lv,rfl,rfl,qu,qv⟩:=f3 (by omega)
    obtain ⟨o1,o2,o3,o4,o5,o6⟩:=opened_T (x:=y) (H:=x::H) hI.swap (by simp;omega) r1
    rw [List.length_append] at hl
    have cu:(t.opened y).s.cnt (t.s.get y).k0≠0:=o1.pos (by simp) (o5.ne_ofL qu)
    have cv:(t.opened y).s.cnt (t.s.get y).k1≠0:=o1.pos (by simp) (o6.ne_ofL qv)
    obtain ⟨pu,g0,g1,g2,g3⟩:=lHigh_T o1 qu (k:=rounds) o5 cu (by omega) (by unfold rounds;omega)
    obtain ⟨pv,j0,j1,j2,j3⟩:=lHigh_T o1 qv (k:=rounds) o6 cv (by omega) (by unfold rounds;omega)
    dsimp only
    rw [j0,g0,Option.bind_some,Option.bind_some]
    have nO:Nw t (t.opened y) (t.s.get y).k0 ((t.s.get y).k1::x::H) 0:=⟨o1,o2,fun e=>absurd (o4.trans he) e,fun e=>absurd he e,by omega,fun _ e=>absurd (o4.trans he) e⟩
    by_cases hB:pu≤pv
    · rw [if_pos hB]
      obtain ⟨n1,s1⟩:=lpair_T (t:=t.opened y) (x:=x) (y:=(t.s.get y).k0) (H:=(t.s.get y).k1::H) (l0:=l0) (l1:=lu) (o1.perm (((List.Perm.swap _ _ _).cons _).trans (List.Perm.swap _ _ _))) (by simp;omega) (by simp;omega) (fun _=>⟨⟨_,r0.grow o2,q0⟩,_,o5,qu⟩)
      obtain ⟨n2,s2⟩:=lpair_T (l0:=l0++lu) (l1:=lv) n1.inv (by omega) (by simp;omega) (fun e=>⟨s1 e,_,o6.grow n1.grow,qv⟩)
      exact ⟨_,rfl,((nO.trans n1).trans n2).mono (by omega),fun e=>by rw [←List.append_assoc];exact s2 e⟩
    · rw [if_neg hB]
      obtain ⟨a',b',w,z,lw,lz,rfl,rfl,qw,qz⟩:=g3 (by omega)
      obtain ⟨v1,v2,v3,v4,v5,v6⟩:=opened_T (t:=t.opened y) (x:=(t.s.get y).k0) (H:=(t.s.get y).k1::x::H) o1 (by simp;omega) o5
      rw [List.length_append] at hl
      obtain ⟨n1,s1⟩:=lpair_T (t:=(t.opened y).opened (t.s.get y).k0) (x:=x) (y:=((t.opened y).s.get (t.s.get y).k0).k0) (H:=((t.opened y).s.get (t.s.get y).k0).k1::(t.s.get y).k1::H) (l0:=l0) (l1:=lw)
        (v1.perm ((((((List.Perm.swap _ _ _).cons _).cons _).trans ((List.Perm.swap _ _ _).cons _)).trans (List.Perm.swap _ _ _)))) (by simp;omega) (by simp;omega) (fun _=>⟨⟨_,(r0.grow o2).grow v2,q0⟩,_,v5,qw⟩)
      obtain ⟨n2,s2⟩:=lpair_T (x:=((t.opened y).s.get (t.s.get y).k0).k1) (y:=(t.s.get y).k1) (H:=(((t.opened y).opened (t.s.get y).k0).lpair x ((t.opened y).s.get (t.s.get y).k0).k0).1::H) (l0:=lz) (l1:=lv) (n1.inv.perm ((List.Perm.swap _ _ _).trans ((List.Perm.swap _ _ _).cons _))) (by simp;omega) (by simp;omega) (fun e=>⟨⟨_,v6.grow n1.grow,qz⟩,_,(o6.grow v2).grow n1.grow,qv⟩)
      obtain ⟨n3,s3⟩:=lpair_T (l0:=l0++lw) (l1:=lz++lv) n2.inv.swap (by omega) (by simp;omega) (fun e=>by
        obtain ⟨z0,z1,z2⟩:=s1 (n2.ok e)
        exact ⟨⟨z0,z1.grow n2.grow,z2⟩,s2 e⟩)
      have nP:Nw (t.opened y) ((t.opened y).opened (t.s.get y).k0) ((t.opened y).s.get (t.s.get y).k0).k0 (((t.opened y).s.get (t.s.get y).k0).k1::(t.s.get y).k1::x::H) 0:=⟨v1,v2,fun e=>absurd (v4.trans (o4.trans he)) e,fun e=>absurd (o4.trans he) e,by omega,fun _ e=>absurd (v4.trans (o4.trans he)) e⟩
      refine ⟨_,rfl,((((nO.trans nP).trans n1).trans n2).trans n3).mono (by omega),fun e=> ?_⟩
      have:=s3 e
      rw [show l0++((lw++lz)++lv)=(l0++lw)++(lz++lv) by simp]
      exact this
  rw [if_neg hA']
  obtain ⟨n1,s1⟩:=lpair_T (t:=t) (x:=x) (y:=y) (H:=H) (l0:=l0) (l1:=l1) hI (by omega) (by simp;omega) (fun _=>⟨⟨_,r0,q0⟩,_,r1,q1⟩)
  exact ⟨_,rfl,n1.mono (by omega),s1⟩
theorem has_le {s:Ar} {H:List Int} (hI:Inv s H) {h:Int} (hh:h≠0→s.has h=true):0≤h∧h≤6000:=by
  by_cases e:h=0
  · omega
  · have:=has_iff.1 (hh e)
    have:=hI.wq.small
    omega
end
section
open Go.RowKit
def repL (l:List (Int×Int)) (i:Nat) (m:List (Int×Int)):List (Int×Int):=l.take i++(m++l.drop (i+1))
theorem repL_left (a b m:List (Int×Int)) (i:Nat) (h:i<a.length):repL (a++b) i m=repL a i m++b:=by
  unfold repL
  rw [List.take_append_of_le_length (by omega),List.drop_append_of_le_length (by omega)];simp
theorem repL_right (a b m:List (Int×Int)) (i:Nat) (h:a.length≤i):repL (a++b) i m=a++repL b (i - a.length) m:=by
  unfold repL
  rw [List.take_append,List.drop_append,List.take_of_length_le h,List.drop_of_length_le (by omega),show i+1 - a.length=i - a.length+1 by omega];simp
theorem repL_length (l m:List (Int×Int)) (i:Nat) (h:i<l.length):(repL l i m).length=l.length - 1+m.length:=by unfold repL;simp;omega
theorem join_R {t : Tb} {x y : Int} {H : List Int} (hI : Inv t.s (x :: y :: H)) (hH : H.length ≤ 980000) {l0 l1 : List (Int × Int)} (hl : (l0 ++ l1).length ≤ 9000)
    (h0:t.e=0→(∃t0,Rep t.s x t0∧ListR t0 l0)∧ ∃t1,Rep t.s y t1∧ListR t1 l1)
    (hx:x≠0→ ∃t' l',Rep t.s x t'∧ListT t' l'∧l'.length≤9000) (hy:y≠0→ ∃t' l',Rep t.s y t'∧ListT t' l'∧l'.length≤9000):
    ∃r,t.join x y=some r∧Nw t r.2 r.1 H 3∧(r.2.e=0→ ∃t',Rep r.2.s r.1 t'∧ListR t' (l0++l1)):=by
  have hh: ∀z∈[x,y],∃p,lHigh rounds t.s z=some p:=fun z hz=>by
    by_cases z0:z=0
    · subst z0;exact ⟨0,lHigh_zero _⟩
    · simp only [List.mem_cons,List.not_mem_nil,or_false] at hz
      rcases hz with rfl|rfl
      · obtain ⟨t',l',a,b,c⟩:=hx z0
        obtain ⟨p,hp, -⟩:=lHigh_T hI b (k:=rounds) a (hI.pos (by simp) z0) (by omega) (by unfold rounds;omega)
        exact ⟨p,hp⟩
      · obtain ⟨t',l',a,b,c⟩:=hy z0
        obtain ⟨p,hp, -⟩:=lHigh_T hI b (k:=rounds) a (hI.pos (by simp) z0) (by omega) (by unfold rounds;omega)
        exact ⟨p,hp⟩
  obtain ⟨p,hp⟩:=hh x (by simp)
  obtain ⟨q,hq⟩:=hh y (by simp)
  by_cases he:t.e=0
  · obtain ⟨⟨t0,r0,q0⟩,t1,r1,q1⟩:=h0 he
    have bx:=has_le hI (r0.has)
    have bj:=has_le hI (r1.has)
    rcases q0 with ⟨rfl,rfl⟩|q0
    · obtain rfl:=r0.zero
      refine ⟨(y,t),?_,⟨hI.tail_zero,Grow.refl _,fun e=>absurd he e,fun _=>rfl,by show t.s.busyN≤_;omega,fun _ e=>absurd he e⟩,fun _=>⟨t1,r1,by simpa using q1⟩⟩
      unfold Tb.join
      rw [hp,hq,Option.bind_some,Option.bind_some,if_pos he,if_pos (.inl rfl),w64 (by omega) (by omega),Int.zero_add]
    · rcases q1 with ⟨rfl,rfl⟩|q1
      · obtain rfl:=r1.zero
        refine ⟨(x,t),?_,⟨hI.swap.tail_zero,Grow.refl _,fun e=>absurd he e,fun _=>rfl,by show t.s.busyN≤_;omega,fun _ e=>absurd he e⟩,fun _=>⟨t0,r0,by simpa using .inr q0⟩⟩
        unfold Tb.join
        rw [hp,hq,Option.bind_some,Option.bind_some,if_pos he,if_pos (.inr rfl),w64 (by omega) (by omega),Int.add_zero]
      · obtain ⟨r,a,b,c⟩:=join_T hI hH (by omega) he r0 q0 r1 q1
        exact ⟨r,a,b,fun e=>by obtain ⟨t',u,v⟩:=c e;exact ⟨t',u, .inr v⟩⟩
  · refine ⟨(0,t.drops [x,y]),?_,(drops_nw (l:=[x,y]) hI (by omega)).mono (by omega),fun h'=>absurd h' he⟩
    unfold Tb.join
    rw [hp,hq,Option.bind_some,Option.bind_some,if_neg he]
def OneOk (one:Tb→Int→Option (Int×Tb)) (y:Int×Int) (m:List (Int×Int)) (c:Nat):Prop:=
  ∀(s:Ar) (H:List Int) (h:Int) (t:Tr),Inv s H→H.length≤960000→Rep s h t→ListT t [y]→s.cnt h≠0→
    ∃r,one ⟨s,0⟩ h=some r∧Nw ⟨s,0⟩ r.2 r.1 H c∧(r.2.e=0→ ∃t',Rep r.2.s r.1 t'∧ListR t' m)
theorem change_T {one : Tb → Int → Option (Int × Tb)} {y : Int × Int} {m : List (Int × Int)} {c : Nat} (h1 : OneOk one y m c) (hm : m.length ≤ 10) {t : Tr} {l : List (Int × Int)} (hb : ListT t l) :
    ∀{k:Nat} {s:Ar} {H:List Int} {h i:Int},Inv s H→Rep s h t→s.cnt h≠0→l.length≤8000→l.length≤k→H.length+l.length≤950000→0≤i→l[i.toNat]? =some y→
    ∃r,Tb.change one k ⟨s,0⟩ h i=some r∧Nw ⟨s,0⟩ r.2 r.1 H (c+3*l.length)∧(r.2.e=0→ ∃t',Rep r.2.s r.1 t'∧ListR t' (repL l i.toNat m)):=by
  induction hb with
  | @item x hx=>
    intro k s H h i hI hr hc hl hk hH h0 hi
    simp only [List.length_cons,List.length_nil] at hk hH
    obtain ⟨k,rfl⟩: ∃j,k=j+1:=⟨k - 1,by omega⟩
    have hi0:i.toNat=0:=by
      obtain ⟨q, -⟩:=List.getElem?_eq_some_iff.1 hi
      simp at q;omega
    rw [hi0] at hi
    simp at hi
    subst hi
    obtain ⟨r,a,b,d⟩:=h1 s H h _ hI (by omega) hr (.item hx) hc
    obtain ⟨_,_,_,_,hh,hg, -⟩:=hr.get
    refine ⟨r,?_,b.mono (by omega),fun e=> ?_⟩
    · unfold Tb.change
      dsimp only
      rw [if_pos (.inr (by rw [hg]))];exact a
    · obtain ⟨t',u,v⟩:=d e
      exact ⟨t',u,by rw [hi0];simpa [repL] using v⟩
  | @join t0 t1 l0 l1 b0 b1 i0 i1=>
    intro k s H h i hI hr hc hl hk hH h0 hi
    have p0:=b0.pos;have p1:=b1.pos
    have hli:=lIs_nd hI hr (.join b0 b1) hc
    rw [List.length_append] at hl hk hH
    obtain ⟨k,rfl⟩: ∃j,k=j+1:=⟨k - 1,by omega⟩
    obtain ⟨x,z,_,_,hh,hg,r0,r1, -⟩:=hr.get
    obtain ⟨c0,c1, -⟩:=hI.kids_of hh hg
    have x0:=r0.ne_ofL b0;have z0:=r1.ne_ofL b1
    have hlen:=(List.getElem?_eq_some_iff.1 hi).1
    rw [List.length_append] at hlen
    unfold Tb.change
    dsimp only
    rw [if_neg (by rw [hg,hli];simp),hg]
    dsimp only
    rw [lLen_T hI r0 b0 (c0 x0) (by omega)]
    by_cases hlow:(l0.length:Int)≤i
    · rw [if_pos hlow,w64 (by omega) (by omega)]
      have g1:=Grow.keep s x
      have j1:=hI.keep (by omega) (c0 x0)
      have c1':=(j1.kids_of (g1.has hh).1 ((g1.has hh).2.trans hg)).2.1 z0
      have hi':l1[(i - (l0.length:Int)).toNat]? =some y:=by
        rw [List.getElem?_append_right (by omega)] at hi
        rw [show (i - (l0.length:Int)).toNat=i.toNat - l0.length by omega];exact hi
      obtain ⟨r,a,b,d⟩:=i1 (k:=k) (i:=i - l0.length) j1 (r1.grow g1) c1' (by omega) (by omega) (by rw [List.length_cons];omega) (by omega) hi'
      show∃r',((Tb.change one k ⟨s.keep x,0⟩ z (i - l0.length)).bind fun r=>r.2.join x r.1)=some r'∧_
      rw [a,Option.bind_some]
      have hrl:=repL_length l1 m (i - (l0.length:Int)).toNat (by omega)
      obtain ⟨r',a',b',d'⟩:=join_R (t:=r.2) (x:=x) (y:=r.1) (H:=H) (l0:=l0) (l1:=repL l1 (i - l0.length).toNat m) b.inv.swap (by omega) (by rw [List.length_append];omega) (fun e=>⟨⟨_,(r0.grow g1).grow b.grow, .inr b0⟩,d e⟩) (fun _=>⟨_,_,(r0.grow g1).grow b.grow,b0,by omega⟩) (fun hr0=>by
        have e:r.2.e=0:=Classical.byContradiction fun e=>hr0 (b.bad e)
        obtain ⟨t',u,v⟩:=d e
        rcases v with ⟨rfl, -⟩|v
        · exact absurd u.zero hr0
        · exact ⟨t',_,u,v,by omega⟩)
      refine ⟨r',a',(b.keepL.trans b').mono (by rw [List.length_append];omega),fun e=> ?_⟩
      rw [repL_right _ _ _ _ (by omega),show i.toNat - l0.length=(i - (l0.length:Int)).toNat by omega]
      exact d' e
    · rw [if_neg hlow]
      have hi':l0[i.toNat]? =some y:=by
        rw [List.getElem?_append_left (by omega)] at hi;exact hi
      obtain ⟨r,a,b,d⟩:=i0 (k:=k) hI r0 (c0 x0) (by omega) (by omega) (by omega) h0 hi'
      rw [a,Option.bind_some]
      have hrl:=repL_length l0 m i.toNat (by omega)
      have hk1:=b.inv.kids_of (b.grow.has hh).1 ((b.grow.has hh).2.trans hg)
      have b1':=b.keepR (x:=z) (by omega) hk1.2.1
      have gk:Grow r.2.s (r.2.keep z).s:=Grow.keep _ _
      obtain ⟨r',a',b',d'⟩:=join_R (t:=r.2.keep z) (x:=r.1) (y:=z) (H:=H) (l0:=repL l0 i.toNat m) (l1:=l1) b1'.inv (by omega) (by rw [List.length_append];omega) (fun e=>by
        obtain ⟨t',z1,z2⟩:=d e
        exact ⟨⟨t',z1.grow gk,z2⟩,_,(r1.grow b.grow).grow gk, .inr b1⟩) (fun hr0=>by
        have e:r.2.e=0:=Classical.byContradiction fun e=>hr0 (b.bad e)
        obtain ⟨t',u,v⟩:=d e
        rcases v with ⟨rfl, -⟩|v
        · exact absurd u.zero hr0
        · exact ⟨t',_,u.grow gk,v,by omega⟩) (fun _=>⟨_,_,(r1.grow b.grow).grow gk,b1,by omega⟩)
      refine ⟨r',a',(b1'.trans b').mono (by rw [List.length_append];omega),fun e=> ?_⟩
      rw [repL_left _ _ _ _ (by omega)]
      exact d' e
theorem lInsOne_ok {n i:Int} {x y:Int×Int} (hx:ItOk x) (hn:n≠0):OneOk (lInsOne n i x) y (if i=n then [y,x] else [x,y]) 4:=by
  intro s H h t hI hH hr ht hc
  unfold lInsOne
  dsimp only
  rw [if_neg hn]
  obtain ⟨n1,s1⟩:=item_T (t:=⟨s,0⟩) (H:=H) hI (by omega) hx
  generalize Tb.item ⟨s,0⟩ x=r at n1 s1⊢
  have hh:=hr.has (hr.ne_ofL ht)
  have hne:=hr.ne_ofL ht
  have hl:r.2.s.cnt h≠0:=hI.live n1.inv n1.grow (fun x=>by rw [List.count_cons];omega) hc
  have n2:=n1.keepR (x:=h) (by omega) (fun _=>hl)
  have gk:Grow r.2.s (r.2.keep h).s:=Grow.keep _ _
  have hry:Rep (r.2.keep h).s h t:=(hr.grow n1.grow).grow gk
  have hrx:r.1≠0→ ∃t' l',Rep (r.2.keep h).s r.1 t'∧ListT t' l'∧l'.length≤9000:=fun hr0=>by
    have e:r.2.e=0:=Classical.byContradiction fun e=>hr0 (n1.bad e)
    obtain ⟨t',u,v⟩:=s1 e
    exact ⟨t',_,u.grow gk,v,by simp⟩
  have hryy:h≠0→ ∃t' l',Rep (r.2.keep h).s h t'∧ListT t' l'∧l'.length≤9000:=fun _=>⟨t,_,hry,ht,by simp⟩
  by_cases hin:i=n
  · rw [if_pos hin,if_pos hin]
    obtain ⟨r',a',b',d'⟩:=join_R (t:=r.2.keep h) (x:=h) (y:=r.1) (H:=H) (l0:=[y]) (l1:=[x]) n2.inv.swap (by omega) (by simp) (fun e=>by
      obtain ⟨t',u,v⟩:=s1 e
      exact ⟨⟨_,hry, .inr ht⟩,t',u.grow gk, .inr v⟩) hryy hrx
    exact ⟨r',a',(n2.trans b').mono (by omega),d'⟩
  · rw [if_neg hin,if_neg hin]
    obtain ⟨r',a',b',d'⟩:=join_R (t:=r.2.keep h) (x:=r.1) (y:=h) (H:=H) (l0:=[x]) (l1:=[y]) n2.inv (by omega) (by simp) (fun e=>by
      obtain ⟨t',u,v⟩:=s1 e
      exact ⟨⟨t',u.grow gk, .inr v⟩,_,hry, .inr ht⟩) hrx hryy
    exact ⟨r',a',(n2.trans b').mono (by omega),d'⟩
theorem repL_last (l:List (Int×Int)) (x y:Int×Int) (hy:l[l.length - 1]? =some y):repL l (l.length - 1) [y,x]=insA l l.length x:=by
  obtain ⟨h1,h2⟩:=List.getElem?_eq_some_iff.1 hy
  unfold repL insA
  rw [List.take_length,List.drop_length,List.drop_of_length_le (by omega)]
  have:l.take (l.length - 1)++[y]=l:=by
    have:=List.take_append_getElem h1
    rw [h2,show l.length - 1+1=l.length by omega,List.take_length] at this
    exact this
  show l.take (l.length - 1)++([y]++[x])=l++[x]
  rw [←List.append_assoc,this]
theorem repL_ins (l:List (Int×Int)) (i:Nat) (x y:Int×Int) (hy:l[i]? =some y):repL l i [x,y]=insA l i x:=by
  obtain ⟨h1,h2⟩:=List.getElem?_eq_some_iff.1 hy
  unfold repL insA
  rw [List.drop_eq_getElem_cons h1,h2];rfl
theorem lInsert_R {s : Ar} {H : List Int} (hI : Inv s H) (hH : H.length ≤ 900000) {h : Int} {l : List (Int × Int)} (hb : LR s h l) (i : Int) {x : Int × Int} (hx : ItOk x) (h0 : 0 ≤ i) (hi : i ≤ l.length) :
    ∃r,lInsert s h i x=some r∧Rs s r H (3*l.length+4) fun t=>ListR t (insA l i.toNat x):=by
  have hs:=hb.short
  have hm:lMay x i (lLen s h)=0:=by
    unfold lMay
    rw [hb.len hI,if_neg (by have:=hx.1;have:=hx.2;omega),if_neg (by omega)]
  unfold lInsert
  rw [if_pos hm,hb.len hI]
  rcases hb.cases with ⟨rfl,rfl⟩|⟨t,h1,h2,h3⟩
  · obtain ⟨n1,s1⟩:=item_T (t:=⟨s,0⟩) (H:=H) hI (by omega) hx
    have e1:Tb.change (lInsOne ((([]:List (Int×Int)).length:Nat):Int) i x) rounds ⟨s,0⟩ 0 (imin i (imax (wrap64 ((([]:List (Int×Int)).length:Nat) - 1)) 0))=some (Tb.item ⟨s,0⟩ x):=by
      rw [show rounds=9999+1 from rfl]
      unfold Tb.change
      rw [if_pos (.inl (lIs_zero s))]
      unfold lInsOne
      dsimp only
      rw [if_pos (by rfl)]
    rw [e1]
    refine ⟨_,rfl,(told_rs n1 fun e=> ?_).mono (by omega)⟩
    obtain ⟨t',a,b⟩:=s1 e
    have:i.toNat=0:=by simp at hi;omega
    refine ⟨t',a, .inr ?_⟩
    rw [this];exact b
  · have hp:=h2.pos
    have hmn:imin i (imax (wrap64 ((l.length:Int) - 1)) 0)=if i=l.length then (l.length:Int) - 1 else i:=by
      rw [w64 (by omega) (by omega)]
      unfold imin imax
      rw [if_neg (show¬(l.length:Int) - 1<0 by omega)]
      split<;>split<;>omega
    rw [hmn]
    obtain ⟨y,hy⟩: ∃y,l[(if i=l.length then (l.length:Int) - 1 else i).toNat]? =some y:=⟨_,List.getElem?_eq_getElem (by split<;>omega)⟩
    obtain ⟨r,a,b,c⟩:=change_T (lInsOne_ok (n:=l.length) (i:=i) (y:=y) hx (by omega)) (by split<;>simp) h2 (k:=rounds) hI h1 h3 (by omega) (by unfold rounds;omega) (by omega) (by split<;>omega) hy
    rw [a]
    refine ⟨_,rfl,(told_rs b fun e=> ?_).mono (by omega)⟩
    obtain ⟨t',u,v⟩:=c e
    refine ⟨t',u,?_⟩
    by_cases hl:i=l.length
    · rw [if_pos hl,if_pos hl,show ((l.length:Int) - 1).toNat=l.length - 1 by omega] at v
      rw [if_pos hl,show ((l.length:Int) - 1).toNat=l.length - 1 by omega] at hy
      rw [repL_last l x y hy] at v
      rw [show i.toNat=l.length by omega];exact v
    · rw [if_neg hl,if_neg hl] at v
      rw [if_neg hl] at hy
      rw [repL_ins l _ x y hy] at v
      exact v
theorem lDelete_R {s : Ar} {H : List Int} (hI : Inv s H) (hH : H.length ≤ 900000) {h : Int} {l : List (Int × Int)} (hb : LR s h l) (i : Int) (h0 : 0 ≤ i) (hi : i < l.length) :
    ∃r,lDelete s h i=some r∧Rs s r H (3*l.length) fun t=>ListR t (l.eraseIdx i.toNat):=by
  have hs:=hb.short
  unfold lDelete
  rw [hb.len hI,if_neg (by omega)]
  rcases hb.cases with ⟨rfl,rfl⟩|⟨t,h1,h2,h3⟩
  · simp at hi;omega
  · obtain ⟨y,hy⟩: ∃y,l[i.toNat]? =some y:=⟨_,List.getElem?_eq_getElem (by omega)⟩
    have hone:OneOk (fun t _=>some (0,t)) y [] 0:=fun s H h t hI hH _ _ _=>
      ⟨(0,⟨s,0⟩),rfl,⟨hI.zero_cons (by omega),Grow.refl s,fun _=>rfl,fun _=>rfl,Nat.le_refl _,fun a b=>absurd a b⟩,fun _=>⟨.nil, .nil, .inl ⟨rfl,rfl⟩⟩⟩
    obtain ⟨r,a,b,c⟩:=change_T hone (by simp) h2 (k:=rounds) hI h1 h3 (by omega) (by unfold rounds;omega) (by omega) h0 hy
    rw [a]
    refine ⟨_,rfl,(told_rs b fun e=> ?_).mono (by omega)⟩
    obtain ⟨t',u,v⟩:=c e
    refine ⟨t',u,?_⟩
    rw [List.eraseIdx_eq_take_drop_succ];exact v
end
section
open Go.RowKit
def symOk (x:Int):Bool:=decide (1≤x)&&decide (x<257)
def symU (x:Int):UInt8:=UInt8.ofNat (x - 1).toNat
def textL:Nat→Ar→Int→Int→List UInt8→Option (List UInt8)
  | 0,_,_,_,_=>none
  | k+1,s,root,row,b=>
    (wGet s (vOf s root).wave row).bind fun x=>(vNext s root row).bind fun y=>
    if y.2&&decide ((if symOk x.1 then b++[symU x.1] else b).length≤40) then textL k s root y.1 (if symOk x.1 then b++[symU x.1] else b) else some (if symOk x.1 then b++[symU x.1] else b)
def pText (s:Ar) (root id:Int):Option (List UInt8×Bool):=
  (tPlace s (vOf s root).table id).bind fun p=>if p.2 then (textL rounds s root p.1 []).map fun b=>(b.reverse,true) else some ([],false)
def partOf (t:List UInt8×Bool) (a b:Int):List UInt8×Int:=
  if t.2=false then ([],4) else if a<0∨b<a∨(t.1.length:Int)<b then ([],3) else ((t.1.take b.toNat).drop a.toNat,0)
def pPart (s:Ar) (root id a b:Int):Option (List UInt8×Int):=(pText s root id).map fun t=>partOf t a b
def pAll (s:Ar) (root:Int):Option (List (Int×Int)):=lAll s (vOf s root).table
def stepOf (b:UInt8) (z:Int×Int):Int×Int:=
  if b.toNat % 4=0 then (z.1+1,z.2) else if b.toNat % 4=1 then (z.1,z.2+1) else if b.toNat % 4=2 then (z.1 - 1,z.2) else (z.1,z.2 - 1)
def walkOf (l:List UInt8):Int×Int:=l.foldl (fun z b=>stepOf b z) (0,0)
end
section
open Go.RowKit
def rowW (X:List (Int×Int×Int)):List Int:=X.map (·.2.2)
def mkd (rate:Int) (x:Int×Int×Int):Bool:=decide (x.2.1 % rate=0)
def rowM (rate:Int) (X:List (Int×Int×Int)):List Bool:=X.map (mkd rate)
def rowS (rate:Int) (X:List (Int×Int×Int)):List (Int×Int):=(X.filter (mkd rate)).map fun x=>(x.1,x.2.1)
def VT (t:Tr) (X:List (Int×Int×Int)) (D:List (Int×Int)) (rate:Int):Prop:=
  ∃tw tm tsp tt,t= .nd 6 0 0 tw tm tsp tt∧WaveT 9 tw (rowW X)∧BitsR tm (rowM rate X)∧ListR tsp (rowS rate X)∧ListR tt D
structure VR (s:Ar) (h:Int) (ds:Docs) (rate:Int):Prop where
  ex:(h=0∧ds=[])∨ ∃t,Rep s h t∧VT t (rowsM ds) (docsM ds) rate
  live:h≠0→s.cnt h≠0
structure Right (ds:Docs):Prop where
  right:refRight (txt ds)=true
  id: ∀d∈ds,1≤d.1∧d.1<9223372036854775808
  nodup:(ds.map (·.1)).Nodup
theorem rowsM_nil:rowsM []=[]:=by
  unfold rowsM
  have:refSorted (([]:Docs).map (·.2))=[]:=by
    unfold refSorted;split
    · rfl
    · rfl
  rw [this];rfl
theorem rowsM_length (ds:Docs):(rowsM ds).length=(refSorted (txt ds)).length:=by unfold rowsM;rw [List.length_map]
theorem rowsM_small (ds:Docs):(rowsM ds).length≤500:=by rw [rowsM_length];exact sorted_small _
theorem rowW_sy (ds:Docs):Sy (rowW (rowsM ds)):=fun x hx=>by
  unfold rowW rowsM at hx
  rw [List.map_map] at hx
  obtain ⟨r, -,rfl⟩:=List.mem_map.1 hx
  exact sym_bound r
theorem symsM_eq (ds:Docs):symsM (txt ds)=rowW (rowsM ds):=by unfold symsM rowW rowsM;rw [List.map_map];rfl
theorem marksM_eq (rate:Int) (ds:Docs):marksM rate (txt ds)=rowM rate (rowsM ds):=by unfold marksM rowM rowsM;rw [List.map_map];rfl
theorem spotsM_eq (rate:Int) (ds:Docs):spotsM rate ds=rowS rate (rowsM ds):=by unfold spotsM rowS rowsM;rw [List.filter_map,List.map_map];rfl
theorem rowS_length (rate:Int) (X:List (Int×Int×Int)):(rowS rate X).length≤X.length:=by
  unfold rowS;rw [List.length_map];exact List.length_filter_le _ _
theorem Right.len {ds:Docs} (h:Right ds):ds.length≤10:=by have:=(right_len h.right).1;simpa using this
theorem VR.parts {s : Ar} {H : List Int} (hI : Inv s H) {h : Int} {ds : Docs} {rate : Int} (hv : VR s h ds rate) (hd : ds.length ≤ 1000) :
    WR s 9 (vOf s h).wave (rowW (rowsM ds))∧BR s (vOf s h).marks (rowM rate (rowsM ds))∧LR s (vOf s h).spots (rowS rate (rowsM ds))∧LR s (vOf s h).table (docsM ds)∧vIs s h=true:=by
  have hn:=rowsM_small ds
  have hsl:=rowS_length rate (rowsM ds)
  rcases hv.ex with ⟨rfl,rfl⟩|⟨t,hr,tw,tm,tsp,tt,rfl,h1,h2,h3,h4⟩
  · have hz:vOf s 0=Parts.zero:=by unfold vOf;rw [if_neg (fun h=>h.1 rfl)]
    rw [hz,rowsM_nil]
    exact ⟨⟨⟨.nil, .nil, .nil⟩,fun h=>absurd rfl h,by simp [rowW],fun x hx=>by simp [rowW] at hx⟩,⟨⟨.nil, .nil, .inl ⟨rfl,rfl⟩⟩,fun h=>absurd rfl h,by simp [rowM]⟩,⟨⟨.nil, .nil, .inl ⟨rfl,rfl⟩⟩,fun h=>absurd rfl h,by simp [rowS]⟩,⟨⟨.nil, .nil, .inl ⟨rfl,rfl⟩⟩,fun h=>absurd rfl h,by simp [docsM]⟩,by simp [vIs]⟩
  · have hne:=hr.ne
    obtain ⟨k0,k1,k2,k3,hh,hg,r0,r1,r2,r3⟩:=hr.get
    obtain ⟨c0,c1,c2,c3⟩:=hI.kids_of hh hg
    have hvi:vIs s h=true:=by
      unfold vIs
      rw [hh,hg]
      simp [hv.live hne]
    have hz:vOf s h=⟨k0,k1,k2,k3⟩:=by unfold vOf;rw [if_pos ⟨hne,hvi⟩,hg]
    rw [hz]
    exact ⟨⟨⟨_,r0,h1⟩,c0,by simp [rowW];omega,rowW_sy ds⟩,⟨⟨_,r1,h2⟩,c1,by simp [rowM];omega⟩,⟨⟨_,r2,h3⟩,c2,by omega⟩,⟨⟨_,r3,h4⟩,c3,by simp [docsM];omega⟩,hvi⟩
theorem VR.rows {s:Ar} {H:List Int} (hI:Inv s H) {h:Int} {ds:Docs} {rate:Int} (hv:VR s h ds rate) (hd:ds.length≤1000):vRows s h=(rowsM ds).length:=by
  unfold vRows
  rw [(hv.parts hI hd).1.len hI];simp [rowW]
theorem VR.docs {s:Ar} {H:List Int} (hI:Inv s H) {h:Int} {ds:Docs} {rate:Int} (hv:VR s h ds rate) (hd:ds.length≤1000):vDocs s h=ds.length:=by
  unfold vDocs
  rw [(hv.parts hI hd).2.2.2.1.len hI];simp [docsM]
theorem VR.all {s:Ar} {H:List Int} (hI:Inv s H) {h:Int} {ds:Docs} {rate:Int} (hv:VR s h ds rate) (hd:ds.length≤1000):lAll s (vOf s h).table=some (docsM ds):=(hv.parts hI hd).2.2.2.1.all hI
def nextL (l:List Int) (i:Int):Int×Bool:=
  if i<0∨(l.length:Int)≤i then (0,false)
  else if l.getD i.toNat 0=0 then (0,false)
  else ((((l.countP fun y=>decide (y<l.getD i.toNat 0))+(l.take i.toNat).count (l.getD i.toNat 0):Nat):Int),true)
theorem VR.next {s:Ar} {H:List Int} (hI:Inv s H) {h:Int} {ds:Docs} {rate:Int} (hv:VR s h ds rate) (hd:ds.length≤1000) (i:Int):vNext s h i=some (nextL (rowW (rowsM ds)) i):=by
  have hw:=(hv.parts hI hd).1
  have hn:(rowW (rowsM ds)).length≤500:=by have:=rowsM_small ds;simp [rowW];omega
  generalize rowW (rowsM ds)=l at hw hn⊢
  unfold vNext nextL
  rw [hw.get hI]
  by_cases hi:i<0∨(l.length:Int)≤i
  · rw [if_pos hi,if_pos hi,Option.bind_some,if_pos (.inl rfl)]
  · rw [if_neg hi,if_neg hi,Option.bind_some]
    have hmem:l.getD i.toNat 0∈l:=by
      rw [List.getD_eq_getElem?_getD,List.getElem?_eq_getElem (by omega)]
      exact List.getElem_mem _
    obtain ⟨h0,h1⟩:=hw.sy _ hmem
    generalize l.getD i.toNat 0=c at h0 h1⊢
    dsimp only
    by_cases hc:c=0
    · rw [if_pos (.inr hc),if_pos hc]
    · rw [if_neg (by simp [hc]),if_neg hc,hw.before hI ⟨h0,h1⟩,Option.bind_some,hw.rank hI ⟨h0,h1⟩ i (by omega) (by omega),Option.bind_some]
      have a1:=List.countP_le_length (p:=fun y=>decide (y<c)) (l:=l)
      have a2:=List.count_le_length (a:=c) (l:=l.take i.toNat)
      rw [List.length_take] at a2
      rw [w64 (by omega) (by omega)]
      congr 2
theorem right_all {ds:Docs} (h:Right ds):refSorted (txt ds)=all (txt ds):=by unfold refSorted;rw [if_pos h.right];rfl
theorem rowW_all {ds:Docs} (h:Right ds):rowW (rowsM ds)=(all (txt ds)).map (symOf (txt ds)):=by
  unfold rowW rowsM
  show List.map _ (List.map _ (refSorted (txt ds)))=_
  rw [right_all h,List.map_map];rfl
theorem next_at {ds : Docs} (h : Right ds) {d a : Nat} {t : List UInt8} (ht : (txt ds)[d]? = some t) (ha : a < t.length) :
    nextL (rowW (rowsM ds)) ((below (txt ds) (d,a+1) (all (txt ds)):Nat):Int)=(((below (txt ds) (d,a) (all (txt ds)):Nat):Int),true):=by
  have hm:=all_mem ht (show a+1≤t.length by omega)
  have hat:=srt_at (all_srt (txt ds)) hm
  have hlen:=(List.getElem?_eq_some_iff.1 hat).1
  obtain ⟨x,hx⟩:=at_some ha
  have hs:=sym_succ ht hx
  rw [rowW_all h,lf_all ht ha]
  unfold nextL
  rw [List.length_map,if_neg (by omega),Int.toNat_natCast,List.getD_eq_getElem?_getD,List.getElem?_map,hat]
  simp only [Option.map_some,Option.getD_some]
  rw [if_neg (by rw [hs];omega)]
theorem next_end {ds : Docs} (h : Right ds) {d : Nat} {t : List UInt8} (ht : (txt ds)[d]? = some t) :
    nextL (rowW (rowsM ds)) ((below (txt ds) (d,0) (all (txt ds)):Nat):Int)=(0,false):=by
  have hm:=all_mem ht (show 0≤t.length by omega)
  have hat:=srt_at (all_srt (txt ds)) hm
  have hlen:=(List.getElem?_eq_some_iff.1 hat).1
  rw [rowW_all h]
  unfold nextL
  rw [List.length_map,if_neg (by omega),Int.toNat_natCast,List.getD_eq_getElem?_getD,List.getElem?_map,hat]
  simp only [Option.map_some,Option.getD_some]
  rw [if_pos (sym_zero d)]
theorem vr_get_at {s : Ar} {H : List Int} (hI : Inv s H) {h : Int} {ds : Docs} {rate : Int} (hv : VR s h ds rate) (hR : Right ds) {d a : Nat} {t : List UInt8} (ht : (txt ds)[d]? = some t) (ha : a ≤ t.length) :
    wGet s (vOf s h).wave ((below (txt ds) (d,a) (all (txt ds)):Nat):Int)=some (symOf (txt ds) (d,a),true):=by
  have hm:=all_mem ht ha
  have hat:=srt_at (all_srt (txt ds)) hm
  have hlen:=(List.getElem?_eq_some_iff.1 hat).1
  rw [((hv.parts hI (by have:=hR.len;omega)).1).get hI,rowW_all hR,List.length_map,if_neg (by omega),Int.toNat_natCast,List.getD_eq_getElem?_getD,List.getElem?_map,hat];rfl
theorem symU_succ (x:UInt8):symOk ((x.toNat:Int)+1)=true∧symU ((x.toNat:Int)+1)=x:=by
  have:=x.toNat_lt
  constructor
  · unfold symOk;simp;omega
  · unfold symU
    rw [show ((x.toNat:Int)+1 - 1).toNat=x.toNat by omega];simp
theorem textL_T {s : Ar} {H : List Int} (hI : Inv s H) {h : Int} {ds : Docs} {rate : Int} (hv : VR s h ds rate) (hR : Right ds) {d : Nat} {t : List UInt8} (ht : (txt ds)[d]? = some t) :
    ∀(a:Nat) (k:Nat) (b:List UInt8),a≤t.length→a<k→b=(t.drop a).reverse→textL k s h ((below (txt ds) (d,a) (all (txt ds)):Nat):Int) b=some t.reverse
  | 0,k,b,ha,hk,hb=>by
    obtain ⟨k,rfl⟩: ∃j,k=j+1:=⟨k - 1,by omega⟩
    unfold textL
    rw [vr_get_at hI hv hR ht ha,Option.bind_some,hv.next hI (by have:=hR.len;omega),next_end hR ht,Option.bind_some,sym_zero]
    simp [symOk,hb]
  | a+1,k,b,ha,hk,hb=>by
    obtain ⟨k,rfl⟩: ∃j,k=j+1:=⟨k - 1,by omega⟩
    obtain ⟨x,hx⟩:=at_some (show a<t.length by omega)
    have ht40:=(right_len hR.right).2 d
    rw [getD_at ht] at ht40
    have hb':b++[x]=(t.drop a).reverse:=by rw [hb,drop_at hx];simp
    have hbl:(b++[x]).length≤40:=by rw [hb',List.length_reverse,List.length_drop];omega
    unfold textL
    rw [vr_get_at hI hv hR ht ha,Option.bind_some,hv.next hI (by have:=hR.len;omega),next_at hR ht (by omega),Option.bind_some,sym_succ ht hx]
    dsimp only
    rw [(symU_succ x).1,(symU_succ x).2,if_pos rfl,if_pos (by simp only [Bool.true_and,decide_eq_true_eq];exact hbl)]
    exact textL_T hI hv hR ht a k (b++[x]) (by omega) (by omega) hb'
def placeD (ds:Docs) (id:Int):Option Nat:=ds.findIdx? fun d=>d.1==id
theorem placeIn_T (id:Int): ∀(ds:Docs) (i:Nat),placeIn id (docsM ds) i=match placeD ds id with|none=>(0,false)|some k=>(((i+k:Nat):Int),true)
  | [],i=>rfl
  | d::ds,i=>by
    unfold docsM placeD
    rw [List.map_cons,List.findIdx?_cons]
    unfold placeIn
    dsimp only
    by_cases e:d.1=id
    · rw [if_pos e,if_pos (by simp [e])];rfl
    · rw [if_neg e,if_neg (by simp [e])]
      have:=placeIn_T id ds (i+1)
      unfold docsM placeD at this
      rw [show ((i:Int)+1)=((i+1:Nat):Int) by omega,this]
      cases List.findIdx? (fun d=>d.1==id) ds with
      | none=>rfl
      | some k=>simp;omega
theorem VR.place {s : Ar} {H : List Int} (hI : Inv s H) {h : Int} {ds : Docs} {rate : Int} (hv : VR s h ds rate) (hd : ds.length ≤ 1000) (id : Int) :
    tPlace s (vOf s h).table id=some (match placeD ds id with|none=>(0,false)|some k=>((k:Int),true)):=by
  unfold tPlace
  rw [hv.all hI hd,Option.map_some]
  have:=placeIn_T id ds 0
  rw [show ((0:Nat):Int)=0 from rfl] at this
  rw [this]
  cases placeD ds id with
  | none=>rfl
  | some k=>simp
theorem placeD_some {ds:Docs} {id:Int} {k:Nat} (h:placeD ds id=some k): ∃t,ds[k]? =some (id,t):=by
  unfold placeD at h
  obtain ⟨h1,h2, -⟩:=List.findIdx?_eq_some_iff_getElem.1 h
  refine ⟨ds[k].2,?_⟩
  rw [List.getElem?_eq_getElem h1]
  simp only [beq_iff_eq] at h2
  rw [←h2]
theorem VR.text {s : Ar} {H : List Int} (hI : Inv s H) {h : Int} {ds : Docs} {rate : Int} (hv : VR s h ds rate) (hR : Right ds) (id : Int) :
    pText s h id=some (match placeD ds id with|none=>([],false)|some k=>((ds.getD k (0,[])).2,true)):=by
  unfold pText
  rw [hv.place hI (by have:=hR.len;omega),Option.bind_some]
  cases hp:placeD ds id with
  | none=>rfl
  | some k=>
    obtain ⟨t,ht⟩:=placeD_some hp
    have htx:(txt ds)[k]? =some t:=by rw [List.getElem?_map,ht];rfl
    have he:=end_all htx
    have hT:=textL_T hI hv hR htx t.length rounds [] (Nat.le_refl _) (by have:=(right_len hR.right).2 k;rw [getD_at htx] at this;unfold rounds;omega) (by simp)
    rw [he] at hT
    dsimp only
    rw [if_pos rfl,hT,Option.map_some]
    simp [List.getD,ht]
end
section
open Go.RowKit
def HasW (s:Ar) (h:Int) (l:List Int):Prop:= ∃t,Rep s h t∧WaveT 9 t l
def HasB (s:Ar) (h:Int) (l:List Bool):Prop:= ∃t,Rep s h t∧BitsR t l
def HasL (s:Ar) (h:Int) (l:List (Int×Int)):Prop:= ∃t,Rep s h t∧ListR t l
theorem HasW.grow {s s':Ar} {h:Int} {l:List Int} (hg:Grow s s') (x:HasW s h l):HasW s' h l:=by obtain ⟨t,a,b⟩:=x;exact ⟨t,a.grow hg,b⟩
theorem HasB.grow {s s':Ar} {h:Int} {l:List Bool} (hg:Grow s s') (x:HasB s h l):HasB s' h l:=by obtain ⟨t,a,b⟩:=x;exact ⟨t,a.grow hg,b⟩
theorem HasL.grow {s s':Ar} {h:Int} {l:List (Int×Int)} (hg:Grow s s') (x:HasL s h l):HasL s' h l:=by obtain ⟨t,a,b⟩:=x;exact ⟨t,a.grow hg,b⟩
theorem HasW.stay {s s':Ar} {h:Int} {l:List Int} {H:List Int} (hs:Stay s s' H) (hh:h∈H) (x:HasW s h l):HasW s' h l:=by obtain ⟨t,a,b⟩:=x;exact ⟨t,a.held hs hh,b⟩
theorem HasB.stay {s s':Ar} {h:Int} {l:List Bool} {H:List Int} (hs:Stay s s' H) (hh:h∈H) (x:HasB s h l):HasB s' h l:=by obtain ⟨t,a,b⟩:=x;exact ⟨t,a.held hs hh,b⟩
theorem HasL.stay {s s':Ar} {h:Int} {l:List (Int×Int)} {H:List Int} (hs:Stay s s' H) (hh:h∈H) (x:HasL s h l):HasL s' h l:=by obtain ⟨t,a,b⟩:=x;exact ⟨t,a.held hs hh,b⟩
theorem nextA_T {s : Ar} {H1 H2 : List Int} {h : Int} {r : Int × Int × Ar} {c : Nat} {P : Tr → Prop} (ok : Bool) (hr : Rs s r (H1 ++ h :: H2) c P) :
    Inv (nextA ok h r).2.2 (H1++(nextA ok h r).1::H2)∧Grow s (nextA ok h r).2.2∧(nextA ok h r).2.2.busyN≤s.busyN+c∧
    (((nextA ok h r).2.1=ok∧ ∃t',Rep (nextA ok h r).2.2 (nextA ok h r).1 t'∧P t')∨((nextA ok h r).2.1=false∧(nextA ok h r).1=h∧s.size<s.busyN+c)):=by
  unfold nextA
  rcases hr.res with ⟨e,t',a,b⟩|⟨e,e1,e2⟩
  · rw [if_pos e]
    dsimp only
    have hd:(if h=0 then r.2.2 else r.2.2.drop h)=r.2.2.drop h:=by
      split
      · rename_i q;rw [q,drop_zero]
      · rfl
    rw [hd]
    have hp:Inv r.2.2 (h::(H1++r.1::H2)):=hr.inv.perm (by
      refine (List.Perm.cons _ List.perm_middle).trans ?_
      refine (List.Perm.swap _ _ _).trans (List.Perm.cons _ ?_)
      exact List.perm_middle.symm)
    have hg:=Grow.drop r.2.2 h
    exact ⟨hp.drop,hr.grow.trans hg,by rw [busyN_drop];exact hr.cost, .inl ⟨rfl,t',a.grow hg,b⟩⟩
  · rw [if_neg (by omega)]
    dsimp only
    have:=hr.inv
    rw [e1] at this
    exact ⟨this.tail_zero,hr.grow,hr.cost, .inr ⟨rfl,rfl,e2⟩⟩
structure Bp (b:Bst) (lw:List Int) (lm:List Bool) (ls lt:List (Int×Int)):Prop where
  inv:Inv b.s [b.p.wave,b.p.marks,b.p.spots,b.p.table]
  w:HasW b.s b.p.wave lw
  m:HasB b.s b.p.marks lm
  sp:HasL b.s b.p.spots ls
  t:HasL b.s b.p.table lt
  sy:Sy lw
theorem Bp.wr {b:Bst} {lw:List Int} {lm:List Bool} {ls lt:List (Int×Int)} (h:Bp b lw lm ls lt) (hl:lw.length≤9000):WR b.s 9 b.p.wave lw:=⟨h.w,fun h0=>h.inv.pos (by simp) h0,hl,h.sy⟩
theorem Bp.busy {b:Bst} {lw:List Int} {lm:List Bool} {ls lt:List (Int×Int)} (h:Bp b lw lm ls lt) (hw:b.s.wait=[]):8*b.s.busyN≤2040+39*lw.length+lm.length+16*ls.length+16*lt.length:=by
  obtain ⟨t1,a1,b1⟩:=h.w
  obtain ⟨t2,a2,b2⟩:=h.m
  obtain ⟨t3,a3,b3⟩:=h.sp
  obtain ⟨t4,a4,b4⟩:=h.t
  have:=h.inv.busy_le hw (T:=[t1,t2,t3,t4]) ⟨a1,a2,a3,a4,trivial⟩
  simp only [sizes,List.map_cons,List.map_nil,List.sum_cons,List.sum_nil] at this
  have:=b1.size;have:=b2.size;have:=b3.size;have:=b4.size
  omega
theorem sy_ins {l:List Int} (h:Sy l) (i:Nat) {x:Int} (hx:0≤x∧x<257):Sy (insA l i x):=fun y hy=>by
  unfold insA at hy
  rcases List.mem_append.1 hy with hy|hy
  · exact h y (List.mem_of_mem_take hy)
  · rcases List.mem_cons.1 hy with rfl|hy
    · exact hx
    · exact h y (List.mem_of_mem_drop hy)
theorem insA_end {α:Type} (l:List α) (x:α):insA l l.length x=l++[x]:=by unfold insA;simp
theorem insL_end (l:List Bool) (x:Bool):insL l l.length x=l++[x]:=by unfold insL;simp
def XOk (x:Int×Int×Int):Prop:=(1≤x.1∧x.1<9223372036854775808)∧(0≤x.2.1∧x.2.1≤1000)∧0≤x.2.2∧x.2.2<257
theorem bStep_T {b : Bst} {lw : List Int} {lm : List Bool} {ls lt : List (Int × Int)} (h : Bp b lw lm ls lt) (rate : Int) {x : Int × Int × Int} (hx : XOk x)
    (hlw:lw.length≤600) (hlm:lm.length=lw.length) (hls:ls.length≤lw.length) (hn:b.n=ls.length) (hok:b.ok=true):
    ∃b',bStep rate (lw.length:Int) x b=some b'∧b'.s.wait=[]∧b'.s.size=b.s.size∧b'.p.table=b.p.table∧
      ((b'.ok=true∧Bp b' (lw++[x.2.2]) (lm++[mkd rate x]) (if mkd rate x then ls++[(x.1,x.2.1)] else ls) lt∧b'.n=(if mkd rate x then ls++[(x.1,x.2.1)] else ls).length)∨
       (b'.ok=false∧b.s.size<b.s.busyN+13*lw.length+50∧ ∃lw' lm' ls',Bp b' lw' lm' ls' lt)):=by
  have hb:=h.wr (by omega)
  obtain ⟨r1,e1,R1⟩:=wInsert_R h.inv (by simp) hb (lw.length:Int) x.2.2 (by omega) (by omega) ⟨hx.2.2.1,hx.2.2.2⟩
  rw [Int.toNat_natCast,insA_end] at R1
  obtain ⟨i1,g1,c1,q1⟩:=nextA_T (H1:=[]) (H2:=[b.p.marks,b.p.spots,b.p.table]) b.ok R1
  obtain ⟨lw1,hw1,sy1,ql1⟩: ∃lw1,HasW (nextA b.ok b.p.wave r1).2.2 (nextA b.ok b.p.wave r1).1 lw1∧Sy lw1∧(((nextA b.ok b.p.wave r1).2.1=true∧lw1=lw++[x.2.2])∨((nextA b.ok b.p.wave r1).2.1=false∧b.s.size<b.s.busyN+9*(lw.length+4))):=by
    rcases q1 with ⟨a,t',p,q⟩|⟨a,a1,a2⟩
    · exact ⟨lw++[x.2.2],⟨t',p,q⟩,by rw [←insA_end];exact sy_ins h.sy _ ⟨hx.2.2.1,hx.2.2.2⟩, .inl ⟨a.trans hok,rfl⟩⟩
    · exact ⟨lw,by rw [a1];exact h.w.grow g1,h.sy, .inr ⟨a,a2⟩⟩
  generalize hT1:nextA b.ok b.p.wave r1=t1 at*
  have hbm:BR t1.2.2 b.p.marks lm:=⟨h.m.grow g1,fun h0=>i1.pos (by simp) h0,by omega⟩
  obtain ⟨r2,e2,R2⟩:=bInsert_R i1 (by simp) hbm (lw.length:Int) (mkd rate x) (by omega) (by omega)
  rw [Int.toNat_natCast,←hlm,insL_end] at R2
  obtain ⟨i2,g2,c2,q2⟩:=nextA_T (H1:=[t1.1]) (H2:=[b.p.spots,b.p.table]) t1.2.1 R2
  obtain ⟨lm1,hm1,ql2⟩: ∃lm1,HasB (nextA t1.2.1 b.p.marks r2).2.2 (nextA t1.2.1 b.p.marks r2).1 lm1∧(((nextA t1.2.1 b.p.marks r2).2.1=t1.2.1∧lm1=lm++[mkd rate x])∨((nextA t1.2.1 b.p.marks r2).2.1=false∧t1.2.2.size<t1.2.2.busyN+(lm.length+3))):=by
    rcases q2 with ⟨a,t',p,q⟩|⟨a,a1,a2⟩
    · exact ⟨_,⟨t',p,q⟩, .inl ⟨a,rfl⟩⟩
    · exact ⟨lm,by rw [a1];exact h.m.grow (g1.trans g2), .inr ⟨a,a2⟩⟩
  generalize hT2:nextA t1.2.1 b.p.marks r2=t2 at*
  have hs1:=g1.size
  have hs2:=g2.size
  by_cases hk:x.2.1 % rate=0
  · have hmk:mkd rate x=true:=decide_eq_true hk
    have hbs:LR t2.2.2 b.p.spots ls:=⟨h.sp.grow (g1.trans g2),fun h0=>i2.pos (by simp) h0,by omega⟩
    obtain ⟨r3,e3,R3⟩:=lInsert_R i2 (by simp) hbs b.n (x:=(x.1,x.2.1)) ⟨⟨by have:=hx.1;dsimp only;omega,hx.1.2⟩,by have:=hx.2.1;dsimp only;omega⟩ (by omega) (by omega)
    rw [hn,Int.toNat_natCast,insA_end] at R3
    obtain ⟨i3,g3,c3,q3⟩:=nextA_T (H1:=[t1.1,t2.1]) (H2:=[b.p.table]) t2.2.1 R3
    obtain ⟨ls1,hsp1,ql3⟩: ∃ls1,HasL (nextA t2.2.1 b.p.spots r3).2.2 (nextA t2.2.1 b.p.spots r3).1 ls1∧(((nextA t2.2.1 b.p.spots r3).2.1=t2.2.1∧ls1=ls++[(x.1,x.2.1)])∨((nextA t2.2.1 b.p.spots r3).2.1=false∧t2.2.2.size<t2.2.2.busyN+(3*ls.length+4))):=by
      rcases q3 with ⟨a,t',p,q⟩|⟨a,a1,a2⟩
      · exact ⟨_,⟨t',p,q⟩, .inl ⟨a,rfl⟩⟩
      · exact ⟨ls,by rw [a1];exact h.sp.grow ((g1.trans g2).trans g3), .inr ⟨a,a2⟩⟩
    generalize hT3:nextA t2.2.1 b.p.spots r3=t3 at*
    obtain ⟨u,w1,w2,w3,w4,w5⟩:=i3.work (by simp) 1073741824
    have hs3:=g3.size
    have hus:=w3.size
    have hBp:Bp ⟨u.2,t3.2.1,⟨t1.1,t2.1,t3.1,b.p.table⟩,wrap64 (b.n+1)⟩ lw1 lm1 ls1 lt:=
      ⟨w2,(hw1.grow (g2.trans g3)).stay w3 (by simp),(hm1.grow g3).stay w3 (by simp),hsp1.stay w3 (by simp),(h.t.grow ((g1.trans g2).trans g3)).stay w3 (by simp),sy1⟩
    refine ⟨⟨u.2,t3.2.1,⟨t1.1,t2.1,t3.1,b.p.table⟩,wrap64 (b.n+1)⟩,?_,w5 (by omega),by dsimp only;omega,rfl,?_⟩
    · unfold bStep
      rw [e1,Option.bind_some]
      dsimp only
      rw [hT1,show decide (x.2.1 % rate=0)=mkd rate x from rfl,e2,Option.bind_some,hT2,if_pos hk,e3,Option.bind_some,hT3,w1];rfl
    · dsimp only
      rw [if_pos hmk]
      have hcs:=R1.cost
      rcases ql1 with ⟨o1,rfl⟩|⟨o1,f1⟩
      · rcases ql2 with ⟨o2,rfl⟩|⟨o2,f2⟩
        · rcases ql3 with ⟨o3,rfl⟩|⟨o3,f3⟩
          · exact .inl ⟨by rw [o3,o2,o1],hBp,by rw [hn,w64 (by omega) (by omega)];simp⟩
          · exact .inr ⟨o3,by omega,_,_,_,hBp⟩
        · refine .inr ⟨?_,by omega,_,_,_,hBp⟩
          rcases ql3 with ⟨o3, -⟩|⟨o3, -⟩
          · rw [o3,o2]
          · exact o3
      · refine .inr ⟨?_,by omega,_,_,_,hBp⟩
        have o2':t2.2.1=false:=by
          rcases ql2 with ⟨o2, -⟩|⟨o2, -⟩
          · rw [o2,o1]
          · exact o2
        rcases ql3 with ⟨o3, -⟩|⟨o3, -⟩
        · rw [o3,o2']
        · exact o3
  · have hmk: ¬mkd rate x=true:=fun h=>hk (of_decide_eq_true h)
    obtain ⟨u,w1,w2,w3,w4,w5⟩:=i2.work (by simp) 1073741824
    have hus:=w3.size
    have hBp:Bp ⟨u.2,t2.2.1,⟨t1.1,t2.1,b.p.spots,b.p.table⟩,b.n⟩ lw1 lm1 ls lt:=
      ⟨w2,(hw1.grow g2).stay w3 (by simp),hm1.stay w3 (by simp),(h.sp.grow (g1.trans g2)).stay w3 (by simp),(h.t.grow (g1.trans g2)).stay w3 (by simp),sy1⟩
    refine ⟨⟨u.2,t2.2.1,⟨t1.1,t2.1,b.p.spots,b.p.table⟩,b.n⟩,?_,w5 (by omega),by dsimp only;omega,rfl,?_⟩
    · unfold bStep
      rw [e1,Option.bind_some]
      dsimp only
      rw [hT1,show decide (x.2.1 % rate=0)=mkd rate x from rfl,e2,Option.bind_some,hT2,if_neg hk,w1];rfl
    · dsimp only
      rw [if_neg hmk]
      rcases ql1 with ⟨o1,rfl⟩|⟨o1,f1⟩
      · rcases ql2 with ⟨o2,rfl⟩|⟨o2,f2⟩
        · exact .inl ⟨by rw [o2,o1],hBp,hn⟩
        · exact .inr ⟨o2,by omega,_,_,_,hBp⟩
      · refine .inr ⟨?_,by omega,_,_,_,hBp⟩
        rcases ql2 with ⟨o2, -⟩|⟨o2, -⟩
        · rw [o2,o1]
        · exact o2
theorem bRows_T (rate : Int) : ∀ (l X : List (Int × Int × Int)) {b : Bst} {lt : List (Int × Int)}, Bp b (rowW X) (rowM rate X) (rowS rate X) lt → (∀ x ∈ X ++ l, XOk x) → (X ++ l).length ≤ 500 → b.n = (rowS rate X).length → b.ok = true → b.s.wait = [] →
    ∃b',bRows rate l (X.length:Int) b=some b'∧b'.s.wait=[]∧b'.s.size=b.s.size∧
      ((b'.ok=true∧Bp b' (rowW (X++l)) (rowM rate (X++l)) (rowS rate (X++l)) lt)∨
       (b'.ok=false∧8*b.s.size<2440+160*(X++l).length+16*lt.length∧ ∃lw' lm' ls',Bp b' lw' lm' ls' lt))
  | [],X,b,lt,h,_,_,_,hok,hw=>⟨b,rfl,hw,rfl, .inl ⟨hok,by simpa using h⟩⟩
  | x::l,X,b,lt,h,hX,hl,hn,hok,hw=>by
    unfold bRows
    rw [if_pos hok]
    have hsl:=rowS_length rate X
    have hlen:(X++x::l).length=X.length+(l.length+1):=by rw [List.length_append,List.length_cons]
    have hwl:(rowW X).length=X.length:=by unfold rowW;rw [List.length_map]
    have hml:(rowM rate X).length=X.length:=by unfold rowM;rw [List.length_map]
    have hbusy:=h.busy hw
    obtain ⟨b1,e1,w1,z1,p1,q1⟩:=bStep_T h rate (hX x (by simp)) (by omega) (by omega) (by omega) hn hok
    rw [hwl] at e1
    rw [e1,Option.bind_some]
    have hcat:X++x::l=(X++[x])++l:=by simp
    have r1:rowW (X++[x])=rowW X++[x.2.2]:=by unfold rowW;simp
    have r2:rowM rate (X++[x])=rowM rate X++[mkd rate x]:=by unfold rowM;simp
    have r3:rowS rate (X++[x])=if mkd rate x then rowS rate X++[(x.1,x.2.1)] else rowS rate X:=by
      unfold rowS
      rw [List.filter_append]
      by_cases hm:mkd rate x=true
      · rw [if_pos hm,List.filter_cons_of_pos hm];simp
      · rw [if_neg hm,List.filter_cons_of_neg hm];simp
    rcases q1 with ⟨o,hB,hn1⟩|⟨o,f,lw',lm',ls',hB⟩
    · rw [←r1,←r2,←r3] at hB
      rw [←r3] at hn1
      have hle:((X++[x]).length:Int)=(X.length:Int)+1:=by simp
      obtain ⟨b',e',w',z',q'⟩:=bRows_T rate l (X++[x]) hB (by rw [←hcat];exact hX) (by rw [←hcat];exact hl) hn1 o w1
      rw [hle] at e'
      rw [e']
      refine ⟨b',rfl,w',by omega,?_⟩
      rw [hcat]
      rcases q' with q'|⟨a,b2,c⟩
      · exact .inl q'
      · exact .inr ⟨a,by omega,c⟩
    · refine ⟨b1,?_,w1,z1, .inr ⟨o,by omega,lw',lm',ls',hB⟩⟩
      cases l with
      | nil=>rfl
      | cons y l=>unfold bRows;rw [if_neg (by rw [o];decide)]
end
section
open Go.RowKit
theorem placeIn_none (id:Int): ∀(l:List (Int×Int)) (i:Int),(∀y∈l,y.1≠id)→placeIn id l i=(0,false)
  | [],_,_=>rfl
  | x::l,i,h=>by
    unfold placeIn
    rw [if_neg (h x (by simp))]
    exact placeIn_none id l (i+1) fun y hy=>h y (by simp [hy])
theorem tAdd_R {s : Ar} {H : List Int} (hI : Inv s H) (hH : H.length ≤ 900000) {h : Int} {l : List (Int × Int)} (hb : LR s h l) {x : Int × Int} (hx : 1 ≤ x.1 ∧ x.1 < 9223372036854775808 ∧ 0 ≤ x.2 ∧ x.2 ≤ 40) (hn : ∀ y ∈ l, y.1 ≠ x.1) (hl : l.length ≤ 9) :
    ∃r,tAdd s h x.1 x.2=some r∧Rs s r H (3*l.length+4) fun t=>ListR t (l++[x]):=by
  unfold tAdd tPlace
  rw [hb.all hI,Option.map_some,Option.bind_some,placeIn_none x.1 l 0 hn,hb.len hI,if_neg (by simp;omega),if_neg (by omega)]
  obtain ⟨r,a,b⟩:=lInsert_R hI hH hb (l.length:Int) (x:=x) ⟨by omega,by omega⟩ (by omega) (by omega)
  rw [Int.toNat_natCast,insA_end] at b
  exact ⟨r,a,b⟩
def DOk (x:Int×Int):Prop:=1≤x.1∧x.1<9223372036854775808∧0≤x.2∧x.2≤40
theorem bTable_T : ∀ (l D : List (Int × Int)) {b : Bst} {lw : List Int} {lm : List Bool} {ls lt : List (Int × Int)}, Bp b lw lm ls lt → (∀ x ∈ D ++ l, DOk x) → ((D ++ l).map (·.1)).Nodup → (D ++ l).length ≤ 10 → (∀ y ∈ lt, y ∈ D) → lt.length ≤ D.length → (b.ok = true → lt = D) →
    ∃b' lt',bTable l b=some b'∧Bp b' lw lm ls lt'∧b'.s.size=b.s.size∧b'.s.busyN≤b.s.busyN+34*l.length∧b'.p.wave=b.p.wave∧b'.p.marks=b.p.marks∧b'.p.spots=b.p.spots∧lt'.length≤10∧
      ((b'.ok=true∧b.ok=true∧lt'=D++l)∨(b'.ok=false∧(b.ok=true→b.s.size<b.s.busyN+34*l.length)))
  | [],D,b,lw,lm,ls,lt,h,hx,hd,hl,h1,h2,h3=>by
    refine ⟨b,lt,rfl,h,rfl,by simp,rfl,rfl,rfl,by simp at hl;omega,?_⟩
    cases ho:b.ok with
    | true=>exact .inl ⟨rfl,rfl,by rw [h3 ho,List.append_nil]⟩
    | false=>exact .inr ⟨rfl,fun h=>by cases h⟩
  | x::l,D,b,lw,lm,ls,lt,h,hx,hd,hl,h1,h2,h3=>by
    rw [List.length_append,List.length_cons] at hl
    have hcat:D++x::l=(D++[x])++l:=by simp
    have hlr:LR b.s b.p.table lt:=⟨h.t,fun h0=>h.inv.pos (by simp) h0,by omega⟩
    have hxo:=hx x (by simp)
    have hnot: ∀y∈lt,y.1≠x.1:=fun y hy e=>by
      rw [List.map_append,List.map_cons] at hd
      obtain ⟨-, -,hdis⟩:=List.nodup_append.1 hd
      exact hdis y.1 (List.mem_map.2 ⟨y,h1 y hy,rfl⟩) x.1 (by simp) e
    obtain ⟨r,e,R⟩:=tAdd_R h.inv (by simp) hlr hxo hnot (by omega)
    obtain ⟨i1,g1,c1,q1⟩:=nextA_T (H1:=[b.p.wave,b.p.marks,b.p.spots]) (H2:=[]) b.ok R
    unfold bTable
    rw [hlr.all h.inv,Option.bind_some,if_pos (by omega),e,Option.bind_some]
    obtain ⟨lt1,ht1,hm1,hl1,ql⟩: ∃lt1,HasL (nextA b.ok b.p.table r).2.2 (nextA b.ok b.p.table r).1 lt1∧(∀y∈lt1,y∈D++[x])∧lt1.length≤(D++[x]).length∧(((nextA b.ok b.p.table r).2.1=b.ok∧lt1=lt++[x])∨((nextA b.ok b.p.table r).2.1=false∧b.s.size<b.s.busyN+(3*lt.length+4))):=by
      rcases q1 with ⟨a,t',p,q⟩|⟨a,a1,a2⟩
      · refine ⟨lt++[x],⟨t',p,q⟩,fun y hy=> ?_,by simp;omega, .inl ⟨a,rfl⟩⟩
        rcases List.mem_append.1 hy with hy|hy
        · exact List.mem_append.2 (.inl (h1 y hy))
        · exact List.mem_append.2 (.inr hy)
      · exact ⟨lt,by rw [a1];exact h.t.grow g1,fun y hy=>List.mem_append.2 (.inl (h1 y hy)),by simp;omega, .inr ⟨a,a2⟩⟩
    generalize nextA b.ok b.p.table r=t1 at*
    have hBp:Bp ⟨t1.2.2,t1.2.1,⟨b.p.wave,b.p.marks,b.p.spots,t1.1⟩,b.n⟩ lw lm ls lt1:=⟨i1,h.w.grow g1,h.m.grow g1,h.sp.grow g1,ht1,h.sy⟩
    obtain ⟨b',lt',e',B',z',c',p1,p2,p3,l',q'⟩:=bTable_T l (D++[x]) hBp (by rw [←hcat];exact hx) (by rw [←hcat];exact hd) (by rw [←hcat,List.length_append,List.length_cons];exact hl) hm1 hl1 (fun ho=>by
      rcases ql with ⟨a,b⟩|⟨a, -⟩
      · rw [b,h3 (a▸ho)]
      · dsimp only at ho;rw [a] at ho;cases ho)
    have hz:=g1.size
    dsimp only at z' c' p1 p2 p3 q'
    refine ⟨b',lt',e',B',by omega,by rw [List.length_cons];omega,p1,p2,p3,l',?_⟩
    rcases q' with ⟨a1,a2,a3⟩|⟨a1,a2⟩
    · rcases ql with ⟨o, -⟩|⟨o, -⟩
      · exact .inl ⟨a1,o▸a2,by rw [a3,hcat]⟩
      · rw [o] at a2;cases a2
    · refine .inr ⟨a1,fun hbo=> ?_⟩
      rw [List.length_cons]
      rcases ql with ⟨o, -⟩|⟨o,f⟩
      · have:=a2 (o.trans hbo);omega
      · omega
theorem dropP_eq (s:Ar) (h:Int):dropP s h=s.drop h:=by
  unfold dropP
  split
  · rename_i q;rw [q,drop_zero]
  · rfl
theorem bEnd_T {b : Bst} {lw : List Int} {lm : List Bool} {ls lt : List (Int × Int)} (h : Bp b lw lm ls lt) (ht : lt ≠ []) :
    ∃r,bEnd b=some r∧Inv r.2.2 [r.1]∧r.2.2.wait=[]∧r.2.2.size=b.s.size∧
      ((r.2.1=true∧b.ok=true∧ ∃t,Rep r.2.2 r.1 t∧ ∃tw tm tsp tt,t= .nd 6 0 0 tw tm tsp tt∧WaveT 9 tw lw∧BitsR tm lm∧ListR tsp ls∧ListR tt lt)∨
       (r.2.1=false∧r.1=0∧(b.ok=true→b.s.busyN=b.s.size))):=by
  unfold bEnd
  dsimp only
  simp only [dropP_eq]
  have fin : ∀ (root : Int) (ok : Bool) (s : Ar), Inv s (root :: [b.p.wave, b.p.marks, b.p.spots, b.p.table]) → (ok = false → root = 0) →
      ∃u,Option.map (fun u:Int×Ar=>(root,ok,if ok=false∧root≠0 then u.2.drop root else u.2)) (((((s.drop b.p.wave).drop b.p.marks).drop b.p.spots).drop b.p.table).work 1073741824)=some (root,ok,u)∧Inv u [root]∧u.wait=[]∧u.size=s.size∧Stay s u [root]:=fun root ok s hi hz=>by
    have hi':Inv s ([b.p.wave,b.p.marks,b.p.spots,b.p.table]++[root]):=hi.perm (by
      have:(root::[b.p.wave,b.p.marks,b.p.spots,b.p.table])=[root]++[b.p.wave,b.p.marks,b.p.spots,b.p.table]:=rfl
      rw [this];exact List.perm_append_comm)
    have hd:=Inv.dropAll hi'
    have hg:=Grow.dropAll [b.p.wave,b.p.marks,b.p.spots,b.p.table] s
    obtain ⟨u,w1,w2,w3, -,w5⟩:=hd.work (by simp) 1073741824
    refine ⟨u.2,?_,w2,w5 (by omega),w3.size.trans hg.size,?_⟩
    · have:(((s.drop b.p.wave).drop b.p.marks).drop b.p.spots).drop b.p.table=s.dropAll [b.p.wave,b.p.marks,b.p.spots,b.p.table]:=rfl
      rw [this,w1,Option.map_some,if_neg (fun q=>q.2 (hz q.1))]
    · refine ⟨w3.size.trans hg.size,fun x hx=> ?_⟩
      have hxs:s.has x=true:=(hi.rc (hx.mono (fun y hy _=>by simp at hy;simp [hy]))).1
      have hx':Rc (s.dropAll [b.p.wave,b.p.marks,b.p.spots,b.p.table]) [root] x:=(hg.stay (hi.perm (List.Perm.refl _))|>.mono (H:=[root]) (fun y hy _=>by simp at hy;simp [hy])).rc hx
      obtain ⟨a,c⟩:=w3.same x hx'
      exact ⟨a,c.trans (hg.has hxs).2⟩
  cases ho:b.ok with
  | false=>
    rw [if_neg (by decide)]
    obtain ⟨u,e,i,w,z, -⟩:=fin 0 false b.s (h.inv.zero_cons (by simp)) (fun _=>rfl)
    exact ⟨_,e,i,w,z, .inr ⟨rfl,rfl,fun h=>by cases h⟩⟩
  | true=>
    rw [if_pos rfl]
    obtain ⟨tt,ht1,ht2⟩:=h.t
    have htn:b.p.table≠0:=by
      rcases ht2 with ⟨-,q⟩|ht2
      · exact absurd q ht
      · exact ht1.ne_ofL ht2
    have hmk:vMake b.s b.p=b.s.make ⟨6,b.p.wave,b.p.marks,b.p.spots,b.p.table,0,0⟩:=by
      unfold vMake;rw [if_neg (fun q=>htn q.2.2.2)]
    rw [hmk]
    rcases h.inv.make (by simp) ⟨6,b.p.wave,b.p.marks,b.p.spots,b.p.table,0,0⟩ ⟨by dsimp only;omega,by dsimp only;omega⟩ U64.zero (fun k hk h0=>h.inv.pos hk h0) with ⟨m1,m2⟩|⟨f,f1,f2,f3,m1,m2,m3,m4,m5,m6,m7⟩
    · rw [m1]
      have hn:nextA true 0 ((0:Int),(2:Int),b.s)=(0,false,b.s):=rfl
      rw [hn]
      obtain ⟨u,e,i,w,z, -⟩:=fin 0 false b.s (h.inv.zero_cons (by simp)) (fun _=>rfl)
      exact ⟨_,e,i,w,z, .inr ⟨rfl,rfl,fun _=>m2⟩⟩
    · generalize b.s.make ⟨6,b.p.wave,b.p.marks,b.p.spots,b.p.table,0,0⟩=r at*
      have hn:nextA true 0 r=(r.1,true,r.2.2):=by unfold nextA;rw [if_pos m2,if_pos rfl]
      rw [hn,m1]
      obtain ⟨u,e,i,w,z,st⟩:=fin (f:Int) true r.2.2 m3 (fun h=>by cases h)
      refine ⟨_,e,i,w,z.trans m4.size, .inl ⟨rfl,rfl,?_⟩⟩
      obtain ⟨tw,w1,w2⟩:=h.w
      obtain ⟨tm,n1,n2⟩:=h.m
      obtain ⟨tsp,s1,s2⟩:=h.sp
      have hfh:r.2.2.has (f:Int)=true:=has_iff.2 ⟨by omega,by rw [m4.size];omega,by simpa using m5⟩
      have hrep:Rep r.2.2 (f:Int) (.nd 6 0 0 tw tm tsp tt):= .nd hfh (by rw [get_nat hfh,Int.toNat_natCast,m6]) (w1.grow m4) (n1.grow m4) (s1.grow m4) (ht1.grow m4)
      exact ⟨_,hrep.held st (by simp),tw,tm,tsp,tt,rfl,w2,n2,s2,ht2⟩
theorem docs_length {ts:List (List UInt8)}: ∀n,n≤ts.length→(docs ts n).length=((ts.take n).map fun t=>t.length+1).sum
  | 0,_=>rfl
  | n+1,h=>by
    obtain ⟨t,ht⟩:=at_some (show n<ts.length by omega)
    obtain ⟨h1,h2⟩:=List.getElem?_eq_some_iff.1 ht
    rw [docs_succ,List.length_append,docs_length n (by omega),List.take_succ_eq_append_getElem h1,List.map_append,List.sum_append,h2]
    unfold rowsOf
    rw [getD_at ht];simp
def tot (ds:Docs):Nat:=(ds.map fun d=>d.2.length).sum
theorem rows_tot {ds:Docs} (h:Right ds):(rowsM ds).length=tot ds+ds.length:=by
  rw [rowsM_length,right_all h,(all_docs _).length_eq,docs_length _ (Nat.le_refl _),List.take_length,List.map_map]
  unfold tot
  clear h
  induction ds with
  | nil=>rfl
  | cons d ds ih=>simp only [List.map_cons,List.sum_cons,List.length_cons,Function.comp] at ih⊢;omega
theorem rows_ok {ds:Docs} (h:Right ds): ∀x∈rowsM ds,XOk x:=fun x hx=>by
  unfold rowsM at hx
  obtain ⟨r,hr,rfl⟩:=List.mem_map.1 hx
  obtain ⟨t,ht,hrt⟩:=sorted_valid hr
  have hb:=sym_bound (ts:=ds.map (·.2)) r
  have h40:=(right_len h.right).2 r.1
  rw [getD_at ht] at h40
  rw [List.getElem?_map] at ht
  obtain ⟨d,hd,hdt⟩:=Option.map_eq_some_iff.1 ht
  have hid:=h.id d (List.mem_of_getElem? hd)
  refine ⟨?_,⟨by dsimp only;omega,by dsimp only;omega⟩,hb⟩
  have:ds.getD r.1 (0,[])=d:=by simp [List.getD,hd]
  rw [this];exact hid
theorem docs_ok {ds:Docs} (h:Right ds): ∀x∈docsM ds,DOk x:=fun x hx=>by
  unfold docsM at hx
  obtain ⟨d,hd,rfl⟩:=List.mem_map.1 hx
  have hid:=h.id d hd
  obtain ⟨i,hi⟩:=List.getElem?_of_mem hd
  have ht:(txt ds)[i]? =some d.2:=by rw [List.getElem?_map,hi];rfl
  have h40:=(right_len h.right).2 i
  rw [getD_at ht] at h40
  exact ⟨hid.1,hid.2,by dsimp only;omega,by dsimp only;omega⟩
theorem bBuild_T {s : Ar} (hI : Inv s []) (hw : s.wait = []) {ds : Docs} (h : Right ds) (rate : Int) :
    ∃r,bBuild s rate (rowsM ds) (docsM ds)=some r∧Inv r.2.2 [r.1]∧r.2.2.wait=[]∧r.2.2.size=s.size∧(r.1=0→ds=[]∨r.2.1=false)∧
      ((r.2.1=true∧VR r.2.2 r.1 ds rate)∨(r.2.1=false∧r.1=0∧8*s.size<10000+160*(rowsM ds).length)):=by
  unfold bBuild
  by_cases hd:ds=[]
  · subst hd
    rw [if_pos (show docsM []=[] from rfl)]
    exact ⟨_,rfl,hI.zero_cons (by simp),hw,rfl,fun _=> .inl rfl, .inl ⟨rfl, .inl ⟨rfl,rfl⟩,fun h=>absurd rfl h⟩⟩
  have hdn:docsM ds≠[]:=by unfold docsM;simpa using hd
  rw [if_neg hdn]
  have hlen:=h.len
  have hN:=rowsM_small ds
  have b0:Bp ⟨s,true,Parts.zero,0⟩ (rowW []) (rowM rate []) (rowS rate []) []:=
    ⟨(((hI.zero_cons (by simp)).zero_cons (by simp)).zero_cons (by simp)).zero_cons (by simp),⟨.nil, .nil, .nil⟩,⟨.nil, .nil, .inl ⟨rfl,rfl⟩⟩,⟨.nil, .nil, .inl ⟨rfl,rfl⟩⟩,⟨.nil, .nil, .inl ⟨rfl,rfl⟩⟩,fun x hx=>by simp [rowW] at hx⟩
  obtain ⟨b1,e1,w1,z1,q1⟩:=bRows_T rate (rowsM ds) [] b0 (by simpa using rows_ok h) (by simpa using hN) rfl rfl hw
  rw [show (([]:List (Int×Int×Int)).length:Int)=0 from rfl] at e1
  rw [List.nil_append] at q1
  rw [e1,Option.bind_some]
  dsimp only at z1 q1
  have hdl:(docsM ds).length=ds.length:=by unfold docsM;simp
  have hnd:((docsM ds).map (·.1)).Nodup:=by
    have:(docsM ds).map (·.1)=ds.map (·.1):=by unfold docsM;rw [List.map_map];rfl
    rw [this];exact h.nodup
  rcases q1 with ⟨o1,B1⟩|⟨o1,f1,lw',lm',ls',B1⟩
  · obtain ⟨b2,lt2,e2,B2,z2,c2, -, -, -,l2,q2⟩:=bTable_T (docsM ds) [] B1 (by simpa using docs_ok h) (by simpa using hnd) (by simp [hdl,hlen]) (by simp) (by simp) (fun _=>rfl)
    rw [e2,Option.bind_some]
    have hb1:=B1.busy w1
    have r1:(rowW (rowsM ds)).length=(rowsM ds).length:=by unfold rowW;simp
    have r2:(rowM rate (rowsM ds)).length=(rowsM ds).length:=by unfold rowM;simp
    have r3:=rowS_length rate (rowsM ds)
    rw [List.length_nil] at hb1
    rcases q2 with ⟨o2, -,l3⟩|⟨o2,f2⟩
    · rw [List.nil_append] at l3
      subst l3
      obtain ⟨r,e3,i3,w3,z3,q3⟩:=bEnd_T B2 hdn
      refine ⟨r,e3,i3,w3,by omega,?_,?_⟩
      · intro hr0
        rcases q3 with ⟨o3, -,t,ht,tw,tm,tsp,tt,rfl, -⟩|⟨o3, -⟩
        · exact absurd hr0 ht.ne
        · exact .inr o3
      · rcases q3 with ⟨o3, -,t,ht,hv⟩|⟨o3,r0,f3⟩
        · exact .inl ⟨o3, .inr ⟨t,ht,hv⟩,fun h0=>i3.pos (by simp) h0⟩
        · have:=f3 o2
          exact .inr ⟨o3,r0,by omega⟩
    · have hlt2 : ∃ r, bEnd b2 = some r ∧ Inv r.2.2 [r.1] ∧ r.2.2.wait = [] ∧ r.2.2.size = b2.s.size ∧ r.2.1 = false ∧ r.1 = 0 := by
        unfold bEnd
        dsimp only
        simp only [dropP_eq]
        rw [o2,if_neg (by decide)]
        have hi':Inv b2.s ([b2.p.wave,b2.p.marks,b2.p.spots,b2.p.table]++[]):=B2.inv
        have hdd:=Inv.dropAll hi'
        have hg:=Grow.dropAll [b2.p.wave,b2.p.marks,b2.p.spots,b2.p.table] b2.s
        obtain ⟨u,u1,u2,u3, -,u5⟩:=hdd.work (by simp) 1073741824
        have he:(((b2.s.drop b2.p.wave).drop b2.p.marks).drop b2.p.spots).drop b2.p.table=b2.s.dropAll [b2.p.wave,b2.p.marks,b2.p.spots,b2.p.table]:=rfl
        rw [he,u1,Option.map_some]
        exact ⟨_,rfl,u2.zero_cons (by simp),u5 (by omega),u3.size.trans hg.size,rfl,rfl⟩
      obtain ⟨r,e3,i3,w3,z3,o3,r0⟩:=hlt2
      have:=f2 o1
      exact ⟨r,e3,i3,w3,by omega,fun _=> .inr o3, .inr ⟨o3,r0,by omega⟩⟩
  · obtain ⟨b2,lt2,e2,B2,z2,c2, -, -, -,l2,q2⟩:=bTable_T (docsM ds) [] B1 (by simpa using docs_ok h) (by simpa using hnd) (by simp [hdl,hlen]) (by simp) (by simp) (fun ho=>by simp [o1] at ho)
    rw [e2,Option.bind_some]
    have o2:b2.ok=false:=by
      rcases q2 with ⟨-,q, -⟩|⟨q, -⟩
      · rw [o1] at q;cases q
      · exact q
    have hlt2: ∃r,bEnd b2=some r∧Inv r.2.2 [r.1]∧r.2.2.wait=[]∧r.2.2.size=b2.s.size∧r.2.1=false∧r.1=0:=by
      unfold bEnd
      dsimp only
      simp only [dropP_eq]
      rw [o2,if_neg (by decide)]
      have hi':Inv b2.s ([b2.p.wave,b2.p.marks,b2.p.spots,b2.p.table]++[]):=B2.inv
      have hdd:=Inv.dropAll hi'
      have hg:=Grow.dropAll [b2.p.wave,b2.p.marks,b2.p.spots,b2.p.table] b2.s
      obtain ⟨u,u1,u2,u3, -,u5⟩:=hdd.work (by simp) 1073741824
      have he:(((b2.s.drop b2.p.wave).drop b2.p.marks).drop b2.p.spots).drop b2.p.table=b2.s.dropAll [b2.p.wave,b2.p.marks,b2.p.spots,b2.p.table]:=rfl
      rw [he,u1,Option.map_some]
      exact ⟨_,rfl,u2.zero_cons (by simp),u5 (by omega),u3.size.trans hg.size,rfl,rfl⟩
    obtain ⟨r,e3,i3,w3,z3,o3,r0⟩:=hlt2
    rw [List.length_nil] at f1
    exact ⟨r,e3,i3,w3,by omega,fun _=> .inr o3, .inr ⟨o3,r0,by omega⟩⟩
theorem Inv.new (n:Nat) (h:n≤6000):Inv (Ar.new n) []:=
  ⟨Ar.Wq.new n h,by simp,fun m _ _ hm=>by simp [Ar.new] at hm,fun m _ _ hm=>by simp [Ar.new] at hm,fun m _ _ hm=>by simp [Ar.new] at hm,by simp,⟨fun _=>0,fun m _ _ hm=>by simp [Ar.new] at hm⟩,by
    have:(Ar.new n).busyN=0:=usedTo_none _ _ fun _ _ _=>rfl
    rw [this]
    rfl⟩
end
section
open Go.RowKit
def placeZ (id:Int):Docs→Int→Int
  | [],_=> -1
  | d::l,i=>if d.1=id then i else placeZ id l (i+1)
def mrFrom (ds:Docs):Docs→Int→Bool
  | [],_=>decide (ds.length≤10)
  | d::l,i=>decide (1≤d.1)&&(decide (d.2.length≤40)&&(decide (placeZ d.1 ds 0=i)&&mrFrom ds l (i+1)))
def mRight (ds:Docs):Bool:=mrFrom ds ds 0
def sumW:Docs→Int→Int
  | [],n=>n
  | d::l,n=>sumW l (wrap64 (n+d.2.length))
def few (ds:Docs):Bool:=decide (ds.length≤12)&&(decide (sumW ds 0≤60)&&mRight ds)
theorem wrap_len {n i:Nat} (h:n≤maxLen) (hi:i<n):wrap64 ((i:Int)+1)=(i:Int)+1:=IntWalk.wrap64_in _ (by unfold maxLen at h;omega)
theorem mrFrom_all (ds:Docs): ∀(l:Docs) (i:Nat),mrFrom ds l (i:Int)=true→(∀k d,l[k]? =some d→1≤d.1∧d.2.length≤40∧placeZ d.1 ds 0=((i+k:Nat):Int))∧ds.length≤10
  | [],i,h=>⟨fun k d hd=>by simp at hd,by unfold mrFrom at h;simpa using h⟩
  | x::l,i,h=>by
    unfold mrFrom at h
    simp only [Bool.and_eq_true,decide_eq_true_eq] at h
    obtain ⟨h1,h2,h3,h4⟩:=h
    obtain ⟨h5,h6⟩:=mrFrom_all ds l (i+1) h4
    refine ⟨fun k d hd=> ?_,h6⟩
    cases k with
    | zero=>cases hd;exact ⟨h1,h2,by rw [h3];rfl⟩
    | succ k=>
      obtain ⟨a,b,c⟩:=h5 k d hd
      exact ⟨a,b,by rw [c];congr 1;omega⟩
theorem sumW_eq: ∀(l:Docs) (n:Nat),(∀d∈l,d.2.length≤40)→n+40*l.length<100000→sumW l n=((n+tot l:Nat):Int)
  | [],n,_,_=>by unfold sumW tot;simp
  | d::l,n,h,hn=>by
    have hd:=h d (by simp)
    simp only [List.length_cons] at hn
    unfold sumW
    rw [IntWalk.wrap64_in _ (by omega)]
    have:=sumW_eq l (n+d.2.length) (fun x hx=>h x (by simp [hx])) (by omega)
    rw [show (n:Int)+(d.2.length:Int)=((n+d.2.length:Nat):Int) by omega,this]
    congr 1
    unfold tot
    simp only [List.map_cons,List.sum_cons]
    omega
theorem few_right {ds:Docs} (h:few ds=true) (hid: ∀d∈ds,(Lit.int .i64 d.1).wf=true):Right ds∧tot ds≤60∧ds.length≤10:=by
  unfold few mRight at h
  simp only [Bool.and_eq_true,decide_eq_true_eq] at h
  obtain ⟨h1,h2,h3⟩:=h
  obtain ⟨h4,h5⟩:=mrFrom_all ds ds 0 h3
  have h40: ∀d∈ds,d.2.length≤40:=fun d hd=>by
    obtain ⟨k,hk⟩:=List.getElem?_of_mem hd
    exact (h4 k d hk).2.1
  rw [show (0:Int)=((0:Nat):Int) from rfl,sumW_eq ds 0 h40 (by omega)] at h2
  refine ⟨⟨?_,fun d hd=> ?_,?_⟩,by omega,h5⟩
  · unfold refRight
    simp only [Bool.and_eq_true,List.all_eq_true,decide_eq_true_eq,List.length_map]
    exact ⟨fun t ht=>by obtain ⟨d,hd,rfl⟩:=List.mem_map.1 ht;exact h40 d hd,h5⟩
  · obtain ⟨k,hk⟩:=List.getElem?_of_mem hd
    exact ⟨(h4 k d hk).1,by have:=hid d hd;simp [Lit.wf,IntKind.min,IntKind.max,IntKind.bits,IntKind.signed] at this;omega⟩
  · refine List.pairwise_iff_getElem.2 fun i j hi hj hij hc=> ?_
    simp only [List.length_map] at hi hj
    simp only [List.getElem_map] at hc
    have a:=(h4 i _ (List.getElem?_eq_getElem hi)).2.2
    have b:=(h4 j _ (List.getElem?_eq_getElem hj)).2.2
    rw [hc,b] at a
    omega
end
section
open Go.RowKit
attribute [local go_sem ↓] Go.wp_at_zero Go.wp_at_succ
attribute [local go_sem] str_len
theorem place_calls (v : Value) (ds : Docs) (id : Int) (hl : ds.length ≤ 50000) (w : World) (h : Rd2 w v ds) :
    Calls Tryz.prog 16 #[v, .int .i64 id] w fun e w'=>e= .returned (.int .i64 (placeZ id ds 0))∧Below w.heap.size w w':=by
  obtain ⟨R,hR⟩: ∃R,placeZ id ds 0=R:=⟨_,rfl⟩
  rw [hR]
  have HR:=Lib.hid hR;clear hR
  have HK:=Lib.hid h
  obtain ⟨A,cap,rfl,h2⟩:=h
  clear h2
  go_enter Tryz.func16,Tryz.ntmps16
  go_wp2_with fail
  go_loopg [5] ds.length (fun k p wr=> ∃i:Nat,p= .int .i64 (i:Int)∧i+k=ds.length∧Hid (placeZ id (ds.drop i) i=R)∧Below w.heap.size w wr)
  case atStart=>exact ⟨0,rfl,by omega,HR,Below.refl _ _⟩
  case round=>
    obtain ⟨i,rfl,hk,Hl,hB⟩:=hrel
    by_cases hlt:i<ds.length
    · obtain ⟨k,rfl⟩: ∃k,gk=k+1:=⟨gk - 1,by omega⟩
      obtain ⟨d,hd⟩:=at_some hlt
      have hl2:=Hl.out
      rw [drop_at hd,placeZ] at hl2
      obtain ⟨A',cap',hv,h2⟩:=HK.out.below hB
      obtain ⟨ad,rfl,hg,hc⟩:=h2 (by omega)
      obtain ⟨rfl, -,rfl⟩:=Value.slice.inj hv
      obtain ⟨-,c1,c2⟩:=hc i d hd
      have n1:decide ((i:Int)<(ds.length:Int))=true:=by simpa using hlt
      have n2:(i:Int)<(ds.length:Int):=by omega
      have e3:wrap64 ((i:Int)+1)=(i:Int)+1:=IntWalk.wrap64_in _ (by omega)
      clear hc c2 h2 hv Hl hd
      by_cases he:d.1=id
      · have d1:(d.1==id)=true:=by simpa using he
        rw [if_pos he] at hl2
        have HL:=Lib.hid hl2
        clear hl2 he
        go_wp2_with fail
        go_ret
        exact ⟨by rw [←HL.out];rfl,hB⟩
      · have d1:(d.1==id)=false:=by simpa using he
        rw [if_neg he] at hl2
        have HL:=Lib.hid hl2
        clear hl2 he
        go_wp2_with fail
        go_roundg k
        case measure=>omega
        case rel=>exact ⟨i+1,by first|rfl|(rw [e3];rfl),by omega,HL,hB⟩
    · have hi:i=ds.length:=by omega
      have hl2:=Hl.out
      rw [hi,List.drop_length,placeZ] at hl2
      have HL:=Lib.hid hl2
      have n1:decide ((i:Int)<(ds.length:Int))=false:=by simpa using hlt
      clear hl2 Hl
      go_wp2_with fail
      go_ret
      exact ⟨by rw [←HL.out];rfl,hB⟩
theorem mright_calls (v : Value) (ds : Docs) (hl : ds.length ≤ 50000) (w : World) (h : Rd2 w v ds) :
    Calls Tryz.prog 55 #[v] w fun e w'=>e= .returned (.bool (mRight ds))∧Below w.heap.size w w':=by
  obtain ⟨R,hR⟩: ∃R,mRight ds=R:=⟨_,rfl⟩
  rw [hR]
  have HR:=Lib.hid hR;clear hR
  have HK:=Lib.hid h
  obtain ⟨A,cap,rfl,h2⟩:=h
  clear h2
  go_enter Tryz.func55,Tryz.ntmps55
  go_wp2_with fail
  go_loopg [3] ds.length (fun k p wr=> ∃i:Nat,p= .int .i64 (i:Int)∧i+k=ds.length∧Hid (mrFrom ds (ds.drop i) i=R)∧Hid (Below w.heap.size w wr))
  case atStart=>exact ⟨0,rfl,by omega,HR,Lib.hid (Below.refl _ _)⟩
  case round=>
    obtain ⟨i,rfl,hk,Hl,HB⟩:=hrel
    by_cases hlt:i<ds.length
    · obtain ⟨k,rfl⟩: ∃k,gk=k+1:=⟨gk - 1,by omega⟩
      obtain ⟨d,hd⟩:=at_some hlt
      have hl2:=Hl.out
      rw [drop_at hd,mrFrom] at hl2
      have HR2:=Lib.hid (HK.out.below HB.out)
      obtain ⟨A',cap',hv,h2⟩:=HR2.out
      obtain ⟨ad,rfl,hg,hc⟩:=h2 (by omega)
      obtain ⟨rfl, -,rfl⟩:=Value.slice.inj hv
      obtain ⟨-,c1,c2⟩:=hc i d hd
      have n1:decide ((i:Int)<(ds.length:Int))=true:=by simpa using hlt
      have n2:(i:Int)<(ds.length:Int):=by omega
      have e3:wrap64 ((i:Int)+1)=(i:Int)+1:=IntWalk.wrap64_in _ (by omega)
      clear hc h2 hv Hl hd
      replace c2:wr.cell? ⟨(ad.add (i*2)).block,(ad.add (i*2)).off+1,none⟩=some (strOf d.2):=c2
      have hend: ∀W2,Below wr.heap.size wr W2→Below w.heap.size w W2:=fun W2 hb=>below_step HB.out hb
      by_cases g1:1≤d.1
      · have d1:decide (d.1<1)=false:=by simp;omega
        rw [decide_eq_true g1,Bool.true_and] at hl2
        by_cases g2:d.2.length≤40
        · have d2:decide ((40:Int)<(d.2.length:Int))=false:=by simp;omega
          rw [decide_eq_true g2,Bool.true_and] at hl2
          by_cases g3:placeZ d.1 ds 0=(i:Int)
          · have d3:(placeZ d.1 ds 0==(i:Int))=true:=by simpa using g3
            rw [decide_eq_true g3,Bool.true_and] at hl2
            have HL:=Lib.hid hl2
            clear hl2 g1 g2 g3
            go_wp2_with fail
            refine (place_calls _ ds _ hl _ HR2.out).mono ?_
            rintro e1 W1 ⟨rfl,hb1⟩
            have HB1:=Lib.hid (hend _ hb1);clear hb1
            go_wp2_with fail
            go_roundg k
            case measure=>omega
            case rel=>exact ⟨i+1,by first|rfl|(rw [e3];rfl),by omega,HL,HB1⟩
          · have d3:(placeZ d.1 ds 0==(i:Int))=false:=by simpa using g3
            rw [decide_eq_false g3,Bool.false_and] at hl2
            have HL:=Lib.hid hl2
            clear hl2 g1 g2 g3
            go_wp2_with fail
            refine (place_calls _ ds _ hl _ HR2.out).mono ?_
            rintro e1 W1 ⟨rfl,hb1⟩
            have HB1:=Lib.hid (hend _ hb1);clear hb1
            go_wp2_with fail
            go_ret
            exact ⟨by rw [←HL.out];rfl,HB1.out⟩
        · have d2:decide ((40:Int)<(d.2.length:Int))=true:=by simp;omega
          rw [decide_eq_false g2,Bool.false_and] at hl2
          have HL:=Lib.hid hl2
          clear hl2 g1 g2
          go_wp2_with fail
          go_ret
          exact ⟨by rw [←HL.out];rfl,HB.out⟩
      · have d1:decide (d.1<1)=true:=by simp;omega
        rw [decide_eq_false g1,Bool.false_and] at hl2
        have HL:=Lib.hid hl2
        clear hl2 g1
        go_wp2_with fail
        go_ret
        exact ⟨by rw [←HL.out];rfl,HB.out⟩
    · have hi:i=ds.length:=by omega
      have hl2:=Hl.out
      rw [hi,List.drop_length,mrFrom] at hl2
      have HL:=Lib.hid hl2
      have n1:decide ((i:Int)<(ds.length:Int))=false:=by simpa using hlt
      clear hl2 Hl
      go_wp2_with fail
      go_ret
      exact ⟨by rw [←HL.out];first|rfl|(show Ending.returned (Value.bool (decide ((ds.length:Int)≤10)))=_;congr 2;exact decide_eq_decide.2 (by omega)),HB.out⟩
theorem few_calls (v : Value) (ds : Docs) (hl : ds.length ≤ maxLen) (w : World) (h : Rd2 w v ds) :
    Calls Tryz.prog 15 #[v] w fun e w'=>e= .returned (.bool (few ds))∧Below w.heap.size w w':=by
  obtain ⟨R,hR⟩: ∃R,few ds=R:=⟨_,rfl⟩
  rw [hR]
  have HR:=Lib.hid hR;clear hR
  have HK:=Lib.hid h
  have HM:=Lib.hid hl
  clear hl
  obtain ⟨A,cap,rfl,h2⟩:=h
  clear h2
  go_enter Tryz.func15,Tryz.ntmps15
  go_wp2_with fail
  go_loopg [3,7] ds.length (fun k p q wr=> ∃(i:Nat) (n:Int),p= .int .i64 n∧q= .int .i64 (i:Int)∧i+k=ds.length∧Hid (sumW (ds.drop i) n=sumW ds 0)∧Below w.heap.size w wr)
  case atStart=>exact ⟨0,0,rfl,rfl,by omega,Lib.hid rfl,Below.refl _ _⟩
  case round=>
    obtain ⟨i,n,rfl,rfl,hk,Hl,hB⟩:=hrel
    by_cases hlt:i<ds.length
    · obtain ⟨k,rfl⟩: ∃k,gk=k+1:=⟨gk - 1,by omega⟩
      obtain ⟨d,hd⟩:=at_some hlt
      have hl2:=Hl.out
      rw [drop_at hd,sumW] at hl2
      obtain ⟨A',cap',hv,h2⟩:=HK.out.below hB
      obtain ⟨ad,rfl,hg,hc⟩:=h2 (by omega)
      obtain ⟨rfl, -,rfl⟩:=Value.slice.inj hv
      obtain ⟨-,c1,c2⟩:=hc i d hd
      have n1:decide ((i:Int)<(ds.length:Int))=true:=by simpa using hlt
      have n2:(i:Int)<(ds.length:Int):=by omega
      have e3:wrap64 ((i:Int)+1)=(i:Int)+1:=wrap_len HM.out hlt
      replace c2:wr.cell? ⟨(ad.add (i*2)).block,(ad.add (i*2)).off+1,none⟩=some (strOf d.2):=c2
      have HL:=Lib.hid hl2
      clear hc c1 h2 hv Hl hd hl2
      go_wp2_with fail
      go_roundg k
      case measure=>omega
      case rel=>exact ⟨i+1,_,rfl,by first|rfl|(rw [e3];rfl),by omega,HL,hB⟩
    · have hi:i=ds.length:=by omega
      have hl2:=Hl.out
      rw [hi,List.drop_length,sumW] at hl2
      have n1:decide ((i:Int)<(ds.length:Int))=false:=by simpa using hlt
      have HB:=Lib.hid hB
      clear Hl hB
      have hr:=HR.out
      unfold few at hr
      rw [←hl2] at hr
      by_cases g1:ds.length≤12
      · have d1:decide ((ds.length:Int)≤12)=true:=by simp;omega
        rw [decide_eq_true g1,Bool.true_and] at hr
        by_cases g2:n≤60
        · have d2:decide (n≤60)=true:=by simpa using g2
          rw [d2,Bool.true_and] at hr
          have hl5:=Lib.hid (show ds.length≤50000 by omega)
          have HR2:=Lib.hid hr
          clear g1 g2 hl2 hr
          go_wp2_with fail
          refine (mright_calls _ ds hl5.out _ (HK.out.below HB.out)).mono ?_
          rintro e1 W1 ⟨rfl,hb1⟩
          have HB1:=Lib.hid (below_step HB.out hb1);clear hb1
          go_wp2_with fail
          go_ret
          exact ⟨by rw [←HR2.out];rfl,HB1.out⟩
        · have d2:decide (n≤60)=false:=by simpa using g2
          rw [d2,Bool.false_and] at hr
          have HR2:=Lib.hid hr
          clear g1 g2 hl2 hr
          go_wp2_with fail
          go_ret
          exact ⟨by rw [←HR2.out];rfl,HB.out⟩
      · have d1:decide ((ds.length:Int)≤12)=false:=by simp;omega
        rw [decide_eq_false g1,Bool.false_and] at hr
        have HR2:=Lib.hid hr
        clear g1 hl2 hr
        go_wp2_with fail
        go_ret
        exact ⟨by rw [←HR2.out];rfl,HB.out⟩
end
section
open Go.RowKit
theorem bTable_ok: ∀{l:List (Int×Int)} {b b':Bst},bTable l b=some b'→b'.ok=true→b.ok=true
  | [],b,b',h,ho=>by cases h;exact ho
  | x::l,b,b',h,ho=>by
    unfold bTable at h
    cases ha:lAll b.s b.p.table with
    | none=>rw [ha] at h;cases h
    | some a=>
      rw [ha,Option.bind_some] at h
      split at h
      · cases hr:tAdd b.s b.p.table x.1 x.2 with
        | none=>rw [hr] at h;cases h
        | some r=>
          rw [hr,Option.bind_some] at h
          have:=bTable_ok h ho
          simp only [nextA] at this
          split at this
          · exact this
          · cases this
      · cases h
theorem bEnd_ok {b:Bst} {r:Int×Bool×Ar} (h:bEnd b=some r) (ho:r.2.1=true):b.ok=true:=by
  cases hb:b.ok with
  | true=>rfl
  | false=>
    unfold bEnd at h
    rw [hb] at h
    simp only [Bool.false_eq_true,if_false] at h
    cases hw:(dropP (dropP (dropP (dropP b.s b.p.wave) b.p.marks) b.p.spots) b.p.table).work 1073741824 with
    | none=>rw [hw] at h;cases h
    | some u=>rw [hw] at h;cases h;cases ho
theorem build_partsW {s : Ar} (hI : Inv s []) (hw : s.wait = []) {ds : Docs} (h : Right ds) (hne : ds ≠ []) (rate : Int) (hs : 10000 + 160 * (tot ds + ds.length) ≤ 8 * s.size) :
    ∃B1 B2 root s',bRows rate (rowsM ds) 0 ⟨s,true,Parts.zero,0⟩=some B1∧B1.ok=true∧bTable (docsM ds) B1=some B2∧B2.ok=true∧bEnd B2=some (root,true,s')∧Inv s' [root]∧s'.size=s.size∧root≠0∧VR s' root ds rate∧s'.wait=[]:=by
  obtain ⟨⟨root,ok,s'⟩,h1,h2,hwt,h3,h4,h5⟩:=bBuild_T hI hw h rate
  have hr:=rows_tot h
  rcases h5 with ⟨rfl,hv⟩|⟨-, -,hlt⟩
  · have hd:docsM ds≠[]:=fun e=>hne (by unfold docsM at e;simpa using e)
    unfold bBuild at h1
    rw [if_neg hd] at h1
    cases e1:bRows rate (rowsM ds) 0 ⟨s,true,Parts.zero,0⟩ with
    | none=>rw [e1] at h1;cases h1
    | some B1=>
      rw [e1,Option.bind_some] at h1
      cases e2:bTable (docsM ds) B1 with
      | none=>rw [e2] at h1;cases h1
      | some B2=>
        rw [e2,Option.bind_some] at h1
        have o2:=bEnd_ok h1 rfl
        exact ⟨B1,B2,root,s',rfl,bTable_ok e2 o2,e2,o2,h1,h2,h3,fun e=>(h4 e).elim hne (fun h=>by cases h),hv,hwt⟩
  · omega
end
section
open Go.RowKit
attribute [local go_sem ↓] Go.wp_at_zero Go.wp_at_succ
attribute [local go_sem] str_len
theorem rowCells_length (l:List (Nat×Nat)):(rowCells l).length=l.length*2:=by unfold rowCells rowInts;rw [itemCells_length,List.length_map]
theorem rowCells_append (a b:List (Nat×Nat)):rowCells (a++b)=rowCells a++rowCells b:=by unfold rowCells rowInts;rw [List.map_append,itemCells_append]
theorem rowCells_take: ∀(l:List (Nat×Nat)) (k:Nat),(rowCells l).take (k*2)=rowCells (l.take k)
  | [],k=>by simp [rowCells,rowInts,itemCells]
  | x::l,0=>rfl
  | x::l,k+1=>by
    have:=rowCells_take l k
    rw [show (k+1)*2=k*2+1+1 by omega]
    unfold rowCells rowInts at this⊢
    simp [itemCells,this]
theorem rowCells_drop: ∀(l:List (Nat×Nat)) (k:Nat),(rowCells l).drop (k*2)=rowCells (l.drop k)
  | [],k=>by simp [rowCells,rowInts,itemCells]
  | x::l,0=>rfl
  | x::l,k+1=>by
    have:=rowCells_drop l k
    rw [show (k+1)*2=k*2+1+1 by omega]
    unfold rowCells rowInts at this⊢
    simp [itemCells,this]
theorem rowCells_one (l:List (Nat×Nat)): ∀u∈rowCells l,u.oneCell'=true:=by
  unfold rowCells rowInts
  induction l with
  | nil=>simp [itemCells]
  | cons x l ih=>
    intro u hu
    simp only [List.map_cons,itemCells,List.mem_cons] at hu
    rcases hu with rfl|rfl|hu
    · rfl
    · rfl
    · exact ih u hu
theorem rowCells_at {l:List (Nat×Nat)} {i:Nat} {r:Nat×Nat} (h:l[i]? =some r):(rowCells l)[i*2]? =some (.int .i64 (r.1:Int))∧(rowCells l)[i*2+1]? =some (.int .i64 (r.2:Int)):=by
  unfold rowCells rowInts
  exact itemCells_at _ i ((r.1:Int),(r.2:Int)) (by simp [h])
theorem step_wrap (j n:Nat) (h:j≤n) (hn:n≤50000):wrap64 ((j:Int)+1)=(j:Int)+1:=IntWalk.wrap64_in _ (by omega)
theorem sorted_walk (v : Value) (ts : List (List UInt8)) (hrt : refRight ts = true) (w : World) (h : Rk w 1 v ts.length (ts.map strOf)) :
    Calls Tryz.prog 56 #[v] w fun e w'=> ∃v',e= .returned v'∧w'.ownsRow w.heap.size 86 2 v' (refFold ts (upto ts ts.length 0)).length (rowCells (refFold ts (upto ts ts.length 0)))∧Below w.heap.size w w':=by
  obtain ⟨hn10,h40⟩:=right_len hrt
  have H40:=Lib.hid h40;clear h40
  have HK:=Lib.hid h
  obtain ⟨h1,A,cap,rfl,h2⟩:=h
  clear h1 h2
  go_enter Tryz.func56,Tryz.ntmps56
  go_wp2_with fail
  refine cg fun V0 hV_V0=> ?_
  have hB:=Below.refl w.heap.size w
  refine neb0 hV_V0 hB ?_;clear hB;intro z_V0 hB
  clear hV_V0
  refine rC (rright_calls _ ts (by omega) _ (HK.out.below hB)) fun W0 hb_W0=> ?_
  refine beb0 hb_W0 hB ?_;clear hb_W0 hB;intro z_W0 hB
  rw [hrt]
  have HB0:=Lib.hid hB;clear hB
  go_wp2_with fail
  go_loopg [3,4] ts.length (fun k p q wr=> ∃d:Nat,q= .int .i64 (d:Int)∧d+k=ts.length∧Hid (wr.ownsRow w.heap.size 86 2 p (refFold ts (upto ts d 0)).length (rowCells (refFold ts (upto ts d 0))))∧Hid (Below w.heap.size w wr))
  case atStart=>exact ⟨0,rfl,by omega,Lib.hid (own_nil _ _ _ _),HB0⟩
  case round=>
    clear HB0
    obtain ⟨d,rfl,hk,Hown,HB⟩:=hrel
    by_cases hlt:d<ts.length
    · obtain ⟨k,rfl⟩: ∃k,gk=k+1:=⟨gk - 1,by omega⟩
      obtain ⟨t,ht⟩:=at_some hlt
      have n1:decide ((d:Int)<(ts.length:Int))=true:=by simpa using hlt
      have n2:(d:Int)<(ts.length:Int):=by omega
      have E3:=Lib.hid (step_wrap d 10 (by omega) (by omega))
      have hgd:=getD_at ht
      have hlen:=H40.out d
      rw [hgd] at hlen
      go_wp2_with fail
      go_loopg [3,5] (t.length+1) (fun k2 p q wr=> ∃a:Nat,q= .int .i64 (a:Int)∧a+k2=t.length+1∧Hid (wr.ownsRow w.heap.size 86 2 p (refFold ts (upto ts d a)).length (rowCells (refFold ts (upto ts d a))))∧Hid (Below w.heap.size w wr))
      case atStart=>exact ⟨0,rfl,by omega,Hown,HB⟩
      case round=>
        clear Hown HB
        obtain ⟨a,rfl,hk2,Hown,HB⟩:=hrel
        obtain ⟨-,A',cap',hv,h2⟩:=HK.out.below HB.out
        obtain ⟨g,cs,T,rfl,kg,hcs⟩:=h2 (by omega)
        obtain ⟨rfl, -,rfl⟩:=Value.slice.inj hv
        have hci:cs[d]? =some (strOf t):=by rw [hcs d (by omega),List.getElem?_map,ht];rfl
        clear h2 hv hcs
        have c_kg:=f3 kg;have l_kgwr:=lt_of kg
        by_cases hla:a≤t.length
        · obtain ⟨k2,rfl⟩: ∃k,gk=k+1:=⟨gk - 1,by omega⟩
          have m1:decide ((a:Int)≤(t.length:Int))=true:=by simp;omega
          have E4:=Lib.hid (step_wrap a 40 (by omega) (by omega))
          have hw0:=HB.out.size
          have hd10:d≤10:=by omega
          have ha41:a≤41:=by omega
          have hB:=Below.refl wr.heap.size wr
          have c_kg:=f3 kg;have l_kgwr:=lt_of kg
          go_wp2_with fail
          refine wg fun V hV_V=> ?_
          refine neb1 hV_V hB kg ?_;clear hB kg c_kg;intro z_V hB kg c_kg
          obtain ⟨kr,c_kr,l_krV⟩:=nM hV_V (wr.heap.size)
          clear hV_V
          have hownV:=own_below Hown.out hB
          have hBV:=below_step HB.out hB
          have hszV:=hBV.size
          obtain ⟨out,hout⟩: ∃out,out=refFold ts (upto ts d a):=⟨_,rfl⟩
          rw [←hout] at hownV
          have hol:out.length≤500:=by rw [hout];exact fold_small hrt d a hd10 ha41
          have hval: ∀x,x∈out→ ∃t',ts[x.1]? =some t'∧x.2≤t'.length:=fun x hx=>fold_valid d a t ht hla x (hout▸hx)
          obtain ⟨-,A3,c3,rfl,hx3⟩:=Rx.of_own hownV
          have HownV:=Lib.hid hownV;have HBV:=Lib.hid hBV;have Hval:=Lib.hid hval;have Hout:=Lib.hid hout;have HX3:=Lib.hid hx3;have KG:=Lib.hid kg;have KR:=Lib.hid kr
          clear hownV hBV hval hout hx3 Hown kg kr c_kg c_kr hB
          generalize hkrb:wr.heap.size=krb at*
          go_loopg [7] out.length (fun k3 p wr=> ∃j:Nat,p= .int .i64 (j:Int)∧j+k3=out.length∧Hid (∀i x,i<j→out[i]? =some x→refLess ts x (d,a)=true)∧Below V.heap.size V wr)
          case atStart=>exact ⟨0,rfl,by omega,Lib.hid (fun i x hi=>absurd hi (by omega)),Below.refl _ _⟩
          case round=>
            obtain ⟨j,rfl,hk3,Hpre,hB2⟩:=hrel
            have hsz2:=hB2.size
            by_cases hj:j<out.length
            · obtain ⟨k3,rfl⟩: ∃k,gk=k+1:=⟨gk - 1,by omega⟩
              obtain ⟨x,hx⟩:=at_some hj
              obtain ⟨t1,ht1,hx2⟩:=Hval.out x (List.mem_of_getElem? hx)
              obtain ⟨g3,rfl,hg3,hc3⟩:=HX3.out (by omega)
              have c1:wr.cell? ⟨g3,j*2,none⟩=some (.int .i64 (x.1:Int)):=((hB2.cell (by exact hg3)).trans (hc3 _ (by omega))).trans (rowCells_at hx).1
              have c2:wr.cell? ⟨g3,j*2+1,none⟩=some (.int .i64 (x.2:Int)):=((hB2.cell (by exact hg3)).trans (hc3 _ (by omega))).trans (rowCells_at hx).2
              have ck:=cells_of (keep_blk hB2 KR.out)
              have l1:g3<wr.heap.size:=by omega
              have l2:=lt_of (keep_blk hB2 KR.out)
              have j1:decide ((j:Int)<(out.length:Int))=true:=by simpa using hj
              have j2:(j:Int)<(out.length:Int):=by omega
              have E5:=Lib.hid (step_wrap j 500 (by omega) (by omega))
              have hlen1:=H40.out x.1
              rw [getD_at ht1] at hlen1
              have hless:Hid (lessL (decide (x.1<d)) (t1.drop x.2) (t.drop a)=refLess ts x (d,a)):=Lib.hid (by unfold refLess;rw [getD_at ht1,getD_at ht])
              clear hc3
              go_wp2_with fail
              refine wp_region_noPanic ?_
              refine wp_region_held_drew (S:=fun v=>Below wr.heap.size wr v∧(wr.heap.size≤v.heap.size)∧ ∀b o,b<wr.heap.size→v.cell? ⟨b,o,none⟩=wr.cell? ⟨b,o,none⟩) (by kernel_rfl) (HeldB.start wr) (fun hHeld=> ?_)
              have hB_d:Below wr.heap.size wr wr.drew:=(Below.refl _ _).drew
              generalize wr.drew=wrd at hHeld hB_d⊢
              refine ta 0 hHeld ?_
              refine ta 1 hHeld ?_
              refine ta 2 hHeld ?_
              refine ta 3 hHeld ?_
              refine ta 4 hHeld ?_
              refine ta 5 hHeld ?_
              refine ta 6 hHeld ?_
              refine ta 7 hHeld ?_
              refine ta 8 hHeld ?_
              refine ta 9 hHeld ?_
              refine ta 10 hHeld ?_
              refine rd 11 rfl fun K hK=> ?_
              go_simp
              refine (less_calls _ ts x.1 x.2 d a t1 t ht1 hx2 ht hla (by omega) _ hless.out _ (HK.out.below (below_step (below_step HBV.out hB2) hB_d))).mono ?_
              rintro e6 W6 ⟨rfl,hb6⟩
              refine ho hK (HeldB.call hHeld hb6) fun hHeld=> ?_
              clear hK K
              have hBX:Below V.heap.size V W6:=below_step hB2 (below_step hB_d hb6)
              cases hR:refLess ts x (d,a) with
              | true=>
                have Hpre2:Hid (∀i y,i<j+1→out[i]? =some y→refLess ts y (d,a)=true):=Lib.hid (fun i y hi hy=>by
                  rcases Nat.lt_or_ge i j with h|h
                  · exact Hpre.out i y h hy
                  · obtain rfl:i=j:=by omega
                    rw [hx] at hy;cases hy;exact hR)
                refine ta 12 hHeld ?_
                refine wpAnyH_done (by kernel_rfl) ?_ _
                refine NoPanic.normal ?_
                clear c1 c2 ck hHeld Hpre
                go_wp2_with fail
                go_roundg k3
                case measure=>omega
                case rel=>exact ⟨j+1,by first|rfl|(rw [E5.out];rfl),by omega,Hpre2,hBX⟩
              | false=>
                have Hat:Hid (refAt ts out (d,a)=j):=Lib.hid (refAt_of (by omega) Hpre.out (fun y hy=>by rw [hx] at hy;cases hy;exact hR))
                refine ta 12 hHeld ?_
                refine wpAnyH_done (by kernel_rfl) ?_ _
                refine NoPanic.normal ?_
                clear c1 c2 ck hHeld Hpre hB_d hb6
                go_wp2_with fail
                have ownX:=own_below HownV.out hBX
                have krX:=keep_blk hBX KR.out
                have ckX:=cells_of krX
                have lkX:=lt_of krX
                have q0:out.length≤c3:=own_cap HownV.out
                have q1:j≤c3:=by omega
                have q2:j≤out.length:=by omega
                refine wp_region_noPanic ?_
                refine wp_region_held_drew (S:=fun v=>Below W6.heap.size W6 v∧(W6.heap.size≤v.heap.size)∧ ∀b o,b<W6.heap.size→v.cell? ⟨b,o,none⟩=W6.cell? ⟨b,o,none⟩) (by kernel_rfl) (HeldB.start W6) (fun hHeld=> ?_)
                have hB_d:Below W6.heap.size W6 W6.drew:=(Below.refl _ _).drew
                generalize W6.drew=W6d at hHeld hB_d⊢
                refine ta 0 hHeld ?_
                refine ta 1 hHeld ?_
                refine ta 2 hHeld ?_
                refine ta 4 hHeld ?_
                refine ta 7 hHeld ?_
                refine ta 8 hHeld ?_
                refine ta 9 hHeld ?_
                have ownD:=own_below ownX hB_d
                have hszX:=hBX.size
                have hszD:=hB_d.size
                skip
                refine wpAnyH_ready (rs:=[3,5]) (by kernel_rfl) (by simp) ?_
                refine ready_at rfl (fun K hK=> ?_) (ready_at rfl (fun K hK=> ?_) AllReadyH.nil)
                · refine step_moreN (by rfl) _ _ 80 (by rfl) (base:=W6.heap.size) (e:=86) (.agg #[.int .i64 0, .int .i64 0]) 2 16 (by omega) Tryz.underlying80 (by kernel_rfl) (by rfl) (v:= .slice none 0 0) (by rfl) (own_nil _ _ _ _) (by rfl) (by have:=(Rds.of_own (ownD)).part j q2;rw [rowCells_take] at this;exact this) (rowCells_one _) (nm:=j) (by omega) (by omega) (by omega) (hHeld.2.1) ?_
                  intro A4 c4 W7 hown7 hlow7 hkeep7
                  refine ho hK (HeldB.low hHeld hlow7) fun hHeld=> ?_
                  clear hK K
                  refine rd 5 rfl fun K hK=> ?_
                  go_simp
                  refine ho hK (HeldB.alloc hHeld _) fun hHeld=> ?_
                  clear hK K
                  refine rd 6 rfl fun K hK=> ?_
                  refine step_moreN (by rfl) _ _ 80 (by rfl) (base:=W6.heap.size) (e:=86) (.agg #[.int .i64 0, .int .i64 0]) 2 16 (by omega) Tryz.underlying80 (by kernel_rfl) (by rfl) (v:= .slice A4 j c4) (by rfl) (hown7.alloc _) (by rfl) (rds_one W7 #[.int .i64 (d:Int), .int .i64 (a:Int)] 86 2 rfl) (rowCells_one [(d,a)]) (nm:=j+1) (by omega) (by omega) (by omega) (hHeld.2.1) ?_
                  intro A5 c5 W8 hown8 hlow8 hkeep8
                  refine ho hK (HeldB.low hHeld hlow8) fun hHeld=> ?_
                  clear hK K
                  refine rd 10 rfl fun K hK=> ?_
                  refine step_moreN (by rfl) _ _ 80 (by rfl) (base:=W6.heap.size) (e:=86) (.agg #[.int .i64 0, .int .i64 0]) 2 16 (by omega) Tryz.underlying80 (by kernel_rfl) (by rfl) (v:= .slice A5 (j+1) c5) (by rfl) (hown8) (by rfl) (by have:=(Rds.of_own (own_below ownX hHeld.1)).behind (A':=if c3=j then some ⟨g3,0,none⟩ else some ⟨g3,j*2,none⟩) j (out.length - j) q2 (by omega) (fun h=>by first|(exfalso;omega)|(rw [if_neg (by omega)];simp [add_zero_off]));rw [rowCells_drop] at this;exact this) (rowCells_one _) (nm:=out.length+1) (by omega) (by omega) (by omega) (hHeld.2.1) ?_
                  intro A6 c6 W9 hown9 hlow9 hkeep9
                  refine ho hK (HeldB.low hHeld hlow9) fun hHeld=> ?_
                  clear hK K
                  have hfin:=hHeld.1
                  refine rd 11 rfl fun K hK=> ?_
                  go_simp
                  refine ho hK hHeld fun hHeld=> ?_
                  clear hK K
                  refine wpAnyH_done (by kernel_rfl) ?_ _
                  refine NoPanic.normal ?_
                  have HF:Hid (W9.ownsRow w.heap.size 86 2 (.slice A6 (out.length+1) c6) (refFold ts (upto ts d (a+1))).length (rowCells (refFold ts (upto ts d (a+1))))):=Lib.hid (by
                    rw [upto_snoc,refFold_snoc,←Hout.out,refIns_length]
                    unfold refIns
                    rw [Hat.out,rowCells_append,show (d,a)::out.drop j=[(d,a)]++out.drop j from rfl,rowCells_append,←List.append_assoc]
                    exact own_mono hown9 (by omega))
                  have HBF:=Lib.hid (below_step (below_step HBV.out hBX) hfin)
                  clear hown9 hlow9 hkeep9 hfin ownX ownD ckX
                  go_wp2_with fail
                  all_goals
                    go_roundg k2
                    case measure=>omega
                    case rel=>exact ⟨a+1,by first|rfl|(rw [E4.out];rfl),by omega,HF,HBF⟩
                · go_simp
                  refine ho hK (HeldB.alloc hHeld _) fun hHeld=> ?_
                  clear hK K
                  refine rd 3 rfl fun K hK=> ?_
                  refine step_moreN (by rfl) _ _ 80 (by rfl) (base:=W6.heap.size) (e:=86) (.agg #[.int .i64 0, .int .i64 0]) 2 16 (by omega) Tryz.underlying80 (by kernel_rfl) (by rfl) (v:= .slice none 0 0) (by rfl) (own_nil _ _ _ _) (by rfl) (by have:=(Rds.of_own (ownD.alloc (.cells #[.int .i64 (d:Int), .int .i64 (a:Int)] 86))).part j q2;rw [rowCells_take] at this;exact this) (rowCells_one _) (nm:=j) (by omega) (by omega) (by omega) (hHeld.2.1) ?_
                  intro A4 c4 W7 hown7 hlow7 hkeep7
                  refine ho hK (HeldB.low hHeld hlow7) fun hHeld=> ?_
                  clear hK K
                  refine rd 6 rfl fun K hK=> ?_
                  refine step_moreN (by rfl) _ _ 80 (by rfl) (base:=W6.heap.size) (e:=86) (.agg #[.int .i64 0, .int .i64 0]) 2 16 (by omega) Tryz.underlying80 (by kernel_rfl) (by rfl) (v:= .slice A4 j c4) (by rfl) (hown7) (by rfl) ((rds_one W6d #[.int .i64 (d:Int), .int .i64 (a:Int)] 86 2 rfl).below (hkeep7 _ (Nat.le_refl _) (by simp [Value.ownBlock]))) (rowCells_one [(d,a)]) (nm:=j+1) (by omega) (by omega) (by omega) (hHeld.2.1) ?_
                  intro A5 c5 W8 hown8 hlow8 hkeep8
                  refine ho hK (HeldB.low hHeld hlow8) fun hHeld=> ?_
                  clear hK K
                  refine rd 10 rfl fun K hK=> ?_
                  refine step_moreN (by rfl) _ _ 80 (by rfl) (base:=W6.heap.size) (e:=86) (.agg #[.int .i64 0, .int .i64 0]) 2 16 (by omega) Tryz.underlying80 (by kernel_rfl) (by rfl) (v:= .slice A5 (j+1) c5) (by rfl) (hown8) (by rfl) (by have:=(Rds.of_own (own_below ownX hHeld.1)).behind (A':=if c3=j then some ⟨g3,0,none⟩ else some ⟨g3,j*2,none⟩) j (out.length - j) q2 (by omega) (fun h=>by first|(exfalso;omega)|(rw [if_neg (by omega)];simp [add_zero_off]));rw [rowCells_drop] at this;exact this) (rowCells_one _) (nm:=out.length+1) (by omega) (by omega) (by omega) (hHeld.2.1) ?_
                  intro A6 c6 W9 hown9 hlow9 hkeep9
                  refine ho hK (HeldB.low hHeld hlow9) fun hHeld=> ?_
                  clear hK K
                  have hfin:=hHeld.1
                  refine rd 11 rfl fun K hK=> ?_
                  go_simp
                  refine ho hK hHeld fun hHeld=> ?_
                  clear hK K
                  refine wpAnyH_done (by kernel_rfl) ?_ _
                  refine NoPanic.normal ?_
                  have HF:Hid (W9.ownsRow w.heap.size 86 2 (.slice A6 (out.length+1) c6) (refFold ts (upto ts d (a+1))).length (rowCells (refFold ts (upto ts d (a+1))))):=Lib.hid (by
                    rw [upto_snoc,refFold_snoc,←Hout.out,refIns_length]
                    unfold refIns
                    rw [Hat.out,rowCells_append,show (d,a)::out.drop j=[(d,a)]++out.drop j from rfl,rowCells_append,←List.append_assoc]
                    exact own_mono hown9 (by omega))
                  have HBF:=Lib.hid (below_step (below_step HBV.out hBX) hfin)
                  clear hown9 hlow9 hkeep9 hfin ownX ownD ckX
                  go_wp2_with fail
                  all_goals
                    go_roundg k2
                    case measure=>omega
                    case rel=>exact ⟨a+1,by first|rfl|(rw [E4.out];rfl),by omega,HF,HBF⟩
            · obtain rfl:j=out.length:=by omega
              have j1:decide ((out.length:Int)<(out.length:Int))=false:=by simp
              have Hat:Hid (refAt ts out (d,a)=out.length):=Lib.hid (refAt_of (Nat.le_refl _) Hpre.out (fun y hy=>by simp at hy))
              clear Hpre
              go_wp2_with fail
              refine wp_region_noPanic ?_
              refine wp_region_held_drew (S:=fun v=>Below wr.heap.size wr v∧(wr.heap.size≤v.heap.size)∧ ∀b o,b<wr.heap.size→v.cell? ⟨b,o,none⟩=wr.cell? ⟨b,o,none⟩) (by kernel_rfl) (HeldB.start wr) (fun hHeld=> ?_)
              have hB_d:Below wr.heap.size wr wr.drew:=(Below.refl _ _).drew
              generalize wr.drew=wrd at hHeld hB_d⊢
              refine ta 0 hHeld ?_
              refine ta 1 hHeld ?_
              refine ta 2 hHeld ?_
              refine ta 3 hHeld ?_
              refine ta 4 hHeld ?_
              refine tno 5 hHeld ?_
              refine tno 6 hHeld ?_
              refine tno 7 hHeld ?_
              refine tno 8 hHeld ?_
              refine tno 9 hHeld ?_
              refine tno 10 hHeld ?_
              refine tno 11 hHeld ?_
              refine ta 12 hHeld ?_
              refine wpAnyH_done (by kernel_rfl) ?_ _
              refine NoPanic.normal ?_
              have hBX:Below V.heap.size V wrd:=below_step hB2 hB_d
              clear hHeld hB_d
              go_wp2_with fail
              have ownX:=own_below HownV.out hBX
              have krX:=keep_blk hBX KR.out
              have ckX:=cells_of krX
              have lkX:=lt_of krX
              have q0:out.length≤c3:=own_cap HownV.out
              have q1:out.length≤c3:=by omega
              have q2:out.length≤out.length:=by omega
              refine wp_region_noPanic ?_
              refine wp_region_held_drew (S:=fun v=>Below wrd.heap.size wrd v∧(wrd.heap.size≤v.heap.size)∧ ∀b o,b<wrd.heap.size→v.cell? ⟨b,o,none⟩=wrd.cell? ⟨b,o,none⟩) (by kernel_rfl) (HeldB.start wrd) (fun hHeld=> ?_)
              have hB_d:Below wrd.heap.size wrd wrd.drew:=(Below.refl _ _).drew
              generalize wrd.drew=wrdd at hHeld hB_d⊢
              refine ta 0 hHeld ?_
              refine ta 1 hHeld ?_
              refine ta 2 hHeld ?_
              refine ta 4 hHeld ?_
              refine ta 7 hHeld ?_
              refine ta 8 hHeld ?_
              refine ta 9 hHeld ?_
              have ownD:=own_below ownX hB_d
              have hszX:=hBX.size
              have hszD:=hB_d.size
              skip
              refine wpAnyH_ready (rs:=[3,5]) (by kernel_rfl) (by simp) ?_
              refine ready_at rfl (fun K hK=> ?_) (ready_at rfl (fun K hK=> ?_) AllReadyH.nil)
              · refine step_moreN (by rfl) _ _ 80 (by rfl) (base:=wrd.heap.size) (e:=86) (.agg #[.int .i64 0, .int .i64 0]) 2 16 (by omega) Tryz.underlying80 (by kernel_rfl) (by rfl) (v:= .slice none 0 0) (by rfl) (own_nil _ _ _ _) (by rfl) (by have:=(Rds.of_own (ownD)).part out.length q2;rw [rowCells_take] at this;exact this) (rowCells_one _) (nm:=out.length) (by omega) (by omega) (by omega) (hHeld.2.1) ?_
                intro A4 c4 W7 hown7 hlow7 hkeep7
                refine ho hK (HeldB.low hHeld hlow7) fun hHeld=> ?_
                clear hK K
                refine rd 5 rfl fun K hK=> ?_
                go_simp
                refine ho hK (HeldB.alloc hHeld _) fun hHeld=> ?_
                clear hK K
                refine rd 6 rfl fun K hK=> ?_
                refine step_moreN (by rfl) _ _ 80 (by rfl) (base:=wrd.heap.size) (e:=86) (.agg #[.int .i64 0, .int .i64 0]) 2 16 (by omega) Tryz.underlying80 (by kernel_rfl) (by rfl) (v:= .slice A4 out.length c4) (by rfl) (hown7.alloc _) (by rfl) (rds_one W7 #[.int .i64 (d:Int), .int .i64 (a:Int)] 86 2 rfl) (rowCells_one [(d,a)]) (nm:=out.length+1) (by omega) (by omega) (by omega) (hHeld.2.1) ?_
                intro A5 c5 W8 hown8 hlow8 hkeep8
                refine ho hK (HeldB.low hHeld hlow8) fun hHeld=> ?_
                clear hK K
                refine rd 10 rfl fun K hK=> ?_
                refine step_moreN (by rfl) _ _ 80 (by rfl) (base:=wrd.heap.size) (e:=86) (.agg #[.int .i64 0, .int .i64 0]) 2 16 (by omega) Tryz.underlying80 (by kernel_rfl) (by rfl) (v:= .slice A5 (out.length+1) c5) (by rfl) (hown8) (by rfl) (by have:=(Rds.of_own (own_below ownX hHeld.1)).behind (A':=if c3=out.length then A3 else A3.map (·.add (out.length*2))) out.length 0 q2 (by omega) (fun h=>by first|(exfalso;omega)|(rw [if_neg (by omega)];simp [add_zero_off]));rw [rowCells_drop] at this;exact this) (rowCells_one _) (nm:=out.length+1) (by omega) (by omega) (by omega) (hHeld.2.1) ?_
                intro A6 c6 W9 hown9 hlow9 hkeep9
                refine ho hK (HeldB.low hHeld hlow9) fun hHeld=> ?_
                clear hK K
                have hfin:=hHeld.1
                refine rd 11 rfl fun K hK=> ?_
                go_simp
                refine ho hK hHeld fun hHeld=> ?_
                clear hK K
                refine wpAnyH_done (by kernel_rfl) ?_ _
                refine NoPanic.normal ?_
                have HF:Hid (W9.ownsRow w.heap.size 86 2 (.slice A6 (out.length+1) c6) (refFold ts (upto ts d (a+1))).length (rowCells (refFold ts (upto ts d (a+1))))):=Lib.hid (by
                  rw [upto_snoc,refFold_snoc,←Hout.out,refIns_length]
                  unfold refIns
                  rw [Hat.out,rowCells_append,show (d,a)::out.drop out.length=[(d,a)]++out.drop out.length from rfl,rowCells_append,←List.append_assoc]
                  exact own_mono hown9 (by omega))
                have HBF:=Lib.hid (below_step (below_step HBV.out hBX) hfin)
                clear hown9 hlow9 hkeep9 hfin ownX ownD ckX
                go_wp2_with fail
                all_goals
                  go_roundg k2
                  case measure=>omega
                  case rel=>exact ⟨a+1,by first|rfl|(rw [E4.out];rfl),by omega,HF,HBF⟩
              · go_simp
                refine ho hK (HeldB.alloc hHeld _) fun hHeld=> ?_
                clear hK K
                refine rd 3 rfl fun K hK=> ?_
                refine step_moreN (by rfl) _ _ 80 (by rfl) (base:=wrd.heap.size) (e:=86) (.agg #[.int .i64 0, .int .i64 0]) 2 16 (by omega) Tryz.underlying80 (by kernel_rfl) (by rfl) (v:= .slice none 0 0) (by rfl) (own_nil _ _ _ _) (by rfl) (by have:=(Rds.of_own (ownD.alloc (.cells #[.int .i64 (d:Int), .int .i64 (a:Int)] 86))).part out.length q2;rw [rowCells_take] at this;exact this) (rowCells_one _) (nm:=out.length) (by omega) (by omega) (by omega) (hHeld.2.1) ?_
                intro A4 c4 W7 hown7 hlow7 hkeep7
                refine ho hK (HeldB.low hHeld hlow7) fun hHeld=> ?_
                clear hK K
                refine rd 6 rfl fun K hK=> ?_
                refine step_moreN (by rfl) _ _ 80 (by rfl) (base:=wrd.heap.size) (e:=86) (.agg #[.int .i64 0, .int .i64 0]) 2 16 (by omega) Tryz.underlying80 (by kernel_rfl) (by rfl) (v:= .slice A4 out.length c4) (by rfl) (hown7) (by rfl) ((rds_one wrdd #[.int .i64 (d:Int), .int .i64 (a:Int)] 86 2 rfl).below (hkeep7 _ (Nat.le_refl _) (by simp [Value.ownBlock]))) (rowCells_one [(d,a)]) (nm:=out.length+1) (by omega) (by omega) (by omega) (hHeld.2.1) ?_
                intro A5 c5 W8 hown8 hlow8 hkeep8
                refine ho hK (HeldB.low hHeld hlow8) fun hHeld=> ?_
                clear hK K
                refine rd 10 rfl fun K hK=> ?_
                refine step_moreN (by rfl) _ _ 80 (by rfl) (base:=wrd.heap.size) (e:=86) (.agg #[.int .i64 0, .int .i64 0]) 2 16 (by omega) Tryz.underlying80 (by kernel_rfl) (by rfl) (v:= .slice A5 (out.length+1) c5) (by rfl) (hown8) (by rfl) (by have:=(Rds.of_own (own_below ownX hHeld.1)).behind (A':=if c3=out.length then A3 else A3.map (·.add (out.length*2))) out.length 0 q2 (by omega) (fun h=>by first|(exfalso;omega)|(rw [if_neg (by omega)];simp [add_zero_off]));rw [rowCells_drop] at this;exact this) (rowCells_one _) (nm:=out.length+1) (by omega) (by omega) (by omega) (hHeld.2.1) ?_
                intro A6 c6 W9 hown9 hlow9 hkeep9
                refine ho hK (HeldB.low hHeld hlow9) fun hHeld=> ?_
                clear hK K
                have hfin:=hHeld.1
                refine rd 11 rfl fun K hK=> ?_
                go_simp
                refine ho hK hHeld fun hHeld=> ?_
                clear hK K
                refine wpAnyH_done (by kernel_rfl) ?_ _
                refine NoPanic.normal ?_
                have HF:Hid (W9.ownsRow w.heap.size 86 2 (.slice A6 (out.length+1) c6) (refFold ts (upto ts d (a+1))).length (rowCells (refFold ts (upto ts d (a+1))))):=Lib.hid (by
                  rw [upto_snoc,refFold_snoc,←Hout.out,refIns_length]
                  unfold refIns
                  rw [Hat.out,rowCells_append,show (d,a)::out.drop out.length=[(d,a)]++out.drop out.length from rfl,rowCells_append,←List.append_assoc]
                  exact own_mono hown9 (by omega))
                have HBF:=Lib.hid (below_step (below_step HBV.out hBX) hfin)
                clear hown9 hlow9 hkeep9 hfin ownX ownD ckX
                go_wp2_with fail
                all_goals
                  go_roundg k2
                  case measure=>omega
                  case rel=>exact ⟨a+1,by first|rfl|(rw [E4.out];rfl),by omega,HF,HBF⟩
        · obtain rfl:a=t.length+1:=by omega
          have m1:decide (((t.length+1:Nat):Int)≤(t.length:Int))=false:=by simp;omega
          have hown:=Hown.out
          rw [←hgd,upto_next] at hown
          have HO:=Lib.hid hown;clear hown Hown
          go_wp2_with fail
          go_roundg k
          case measure=>omega
          case rel=>exact ⟨d+1,by first|rfl|(rw [E3.out];rfl),by omega,HO,HB⟩
    · have hi:d=ts.length:=by omega
      have n1:decide ((d:Int)<(ts.length:Int))=false:=by simpa using hlt
      have hown:=Hown.out
      rw [hi] at hown
      have HO:=Lib.hid hown;clear hown Hown
      go_wp2_with fail
      go_ret
      exact ⟨u3,rfl,HO.out,HB.out⟩
end
section
open Go.RowKit
attribute [local go_sem ↓] Go.wp_at_zero Go.wp_at_succ
attribute [local go_sem] str_len
theorem sorted_calls (v : Value) (ts : List (List UInt8)) (hn : ts.length ≤ 50000) (w : World) (h : Rk w 1 v ts.length (ts.map strOf)) :
    Calls Tryz.prog 56 #[v] w fun e w'=> ∃v',e= .returned v'∧w'.ownsRow w.heap.size 86 2 v' (refSorted ts).length (rowCells (refSorted ts))∧Below w.heap.size w w':=by
  unfold refSorted
  cases hrt:refRight ts with
  | true=>rw [if_pos rfl];exact sorted_walk v ts hrt w h
  | false=>
    rw [if_neg (by decide)]
    have HK:=Lib.hid h
    obtain ⟨h1,A,cap,rfl,h2⟩:=h
    clear h1 h2
    go_enter Tryz.func56,Tryz.ntmps56
    go_wp2_with fail
    refine cg fun V0 hV_V0=> ?_
    have hB:=Below.refl w.heap.size w
    refine neb0 hV_V0 hB ?_;clear hB;intro z_V0 hB
    clear hV_V0
    refine rC (rright_calls _ ts hn _ (HK.out.below hB)) fun W0 hb_W0=> ?_
    refine beb0 hb_W0 hB ?_;clear hb_W0 hB;intro z_W0 hB
    rw [hrt]
    go_wp2_with fail
    go_ret
    exact ⟨_,rfl,own_nil _ _ _ _,hB⟩
def intCells (l:List Int):List Value:=l.map fun x=> .int .i64 x
theorem step_id (j n:Nat) (h:j≤n) (hn:n≤50000):wrap64 (j:Int)=(j:Int):=IntWalk.wrap64_in _ (by omega)
theorem symbols_calls (v : Value) (ts : List (List UInt8)) (hn : ts.length ≤ 50000) (hn2 : ∀ t, t ∈ ts → t.length ≤ 50000) (w : World) (h : Rk w 1 v ts.length (ts.map strOf)) :
    Calls Tryz.prog 31 #[v] w fun e w'=> ∃v',e= .returned v'∧w'.ownsRow w.heap.size 3 1 v' (refSorted ts).length (intCells ((refSorted ts).map (symOf ts)))∧Below w.heap.size w w':=by
  obtain ⟨R,hR⟩: ∃R,R=refSorted ts:=⟨_,rfl⟩
  rw [←hR]
  have HK:=Lib.hid h
  obtain ⟨h1,A,cap,rfl,h2⟩:=h
  have hval: ∀x,x∈R→ ∃t,ts[x.1]? =some t∧x.2≤t.length:=fun x hx=>sorted_valid (hR▸hx)
  have hsm:R.length≤500:=by rw [hR];exact sorted_small ts
  have Hval:=Lib.hid hval;have HR:=Lib.hid hR
  clear h1 h2 hval hR
  go_enter Tryz.func31,Tryz.ntmps31
  go_wp2_with fail
  refine cg fun V0 hV_V0=> ?_
  have hB:=Below.refl w.heap.size w
  refine neb0 hV_V0 hB ?_;clear hB;intro z_V0 hB
  clear hV_V0
  refine (sorted_calls _ ts hn _ (HK.out.below hB)).mono ?_
  rintro e1 W1 ⟨v1,rfl,hown1,hb1⟩
  have hB1:=below_step hB hb1
  rw [←HR.out] at hown1
  obtain ⟨-,A1,c1,rfl,hx1⟩:=Rx.of_own hown1
  have HX:=Lib.hid (Rk.of_own hown1);have HB1:=Lib.hid hB1
  have hsz1:=hB1.size
  clear hown1 hb1 hB hB1 hx1
  go_wp2_with fail
  go_loopg [4,5] R.length (fun k p q wr=> ∃i:Nat,q= .int .i64 (i:Int)∧i+k=R.length∧Hid (wr.ownsRow W1.heap.size 3 1 p i (intCells ((R.take i).map (symOf ts))))∧Hid (Below W1.heap.size W1 wr))
  case atStart=>exact ⟨0,rfl,by omega,Lib.hid (own_nil _ _ _ _),Lib.hid (Below.refl _ _)⟩
  case round=>
    obtain ⟨i,rfl,hk,Hown,HB⟩:=hrel
    by_cases hlt:i<R.length
    · obtain ⟨k,rfl⟩: ∃k,gk=k+1:=⟨gk - 1,by omega⟩
      obtain ⟨x,hx⟩:=at_some hlt
      obtain ⟨t,ht,hxt⟩:=Hval.out x (List.mem_of_getElem? hx)
      obtain ⟨-,A',cap',hv,h2⟩:=HX.out
      obtain ⟨g1,cs1,T1,rfl,kg1',hcs1⟩:=h2 (by omega)
      have kg1:=keep_blk HB.out kg1'
      have w1a:=cells_of kg1'
      have w1l:=lt_of kg1'
      obtain ⟨rfl, -,rfl⟩:=Value.slice.inj hv
      have c1a:cs1[i*2]? =some (.int .i64 (x.1:Int)):=(hcs1 _ (by omega)).trans (rowCells_at hx).1
      have c1b:cs1[i*2+1]? =some (.int .i64 (x.2:Int)):=(hcs1 _ (by omega)).trans (rowCells_at hx).2
      clear h2 hv hcs1
      have htake:Hid (intCells ((R.take (i+1)).map (symOf ts))=intCells ((R.take i).map (symOf ts))++[.int .i64 (symOf ts x)]):=Lib.hid (by
        unfold intCells
        rw [List.take_succ_eq_append_getElem hlt,List.map_append,List.map_append,(List.getElem_eq_iff hlt).2 hx];rfl)
      have n1:decide ((i:Int)<(R.length:Int))=true:=by simpa using hlt
      have n2:(i:Int)<(R.length:Int):=by omega
      have E3:=Lib.hid (step_wrap i 500 (by omega) (by omega))
      have hw1:=HB.out.size
      by_cases h0:x.2=0
      · have hs:Hid (symOf ts x=0):=Lib.hid (by unfold symOf;rw [if_pos h0])
        have d0:((x.2:Int)==0)=true:=by rw [h0];rfl
        clear h0 hxt
        have c_kg1:=f3 kg1;have l_kg1wr:=lt_of kg1
        go_wp2_with (at_builtin;refine wpList_push _ (by rfl) _ _ 44 (by rfl) (W1.heap.size) 3 (.int .i64 0) 1 8 Tryz.underlying44 (by kernel_rfl) (by rfl) (by omega) _ _ _ (by rfl) Hown.out _ (by rfl) (by rfl) (by simp [Value.oneCell']) (by unfold maxLen;omega) (by omega) (by omega) ?_;intro g_W c_W W5 hown_W hlow_W hlt_W)
        go_wp2_with fail
        go_roundg k
        case measure=>omega
        case rel=>exact ⟨i+1,by first|rfl|(rw [E3.out];rfl),by omega,Lib.hid (by rw [htake.out,hs.out];exact hown_W),Lib.hid (low_step HB.out (Nat.le_refl _) hlow_W)⟩
      · obtain ⟨j,hj⟩: ∃j:Nat,x.2=j+1:=⟨x.2 - 1,by omega⟩
        obtain ⟨b,hb⟩:=at_some (show j<t.length by omega)
        have htl:=hn2 t (List.mem_of_getElem? ht)
        have hs:Hid (symOf ts x=(b.toNat:Int)+1):=Lib.hid (by unfold symOf;rw [if_neg h0,getD_at ht,hj];simp [List.getD,hb])
        have d0:((x.2:Int)==0)=false:=by rw [beq_eq_false_iff_ne];omega
        obtain ⟨hd, -⟩:=List.getElem?_eq_some_iff.1 ht
        obtain ⟨-,A2,cap2,hv2,h3⟩:=HK.out.below HB1.out
        obtain ⟨g2,cs2,T2,rfl,kg2',hcs2⟩:=h3 (by omega)
        have kg2:=keep_blk HB.out kg2'
        have w2a:=cells_of kg2'
        have w2l:=lt_of kg2'
        obtain ⟨rfl, -,rfl⟩:=Value.slice.inj hv2
        have c2a:cs2[x.1]? =some (strOf t):=by rw [hcs2 _ (by omega),List.getElem?_map,ht];rfl
        have n3:(x.1:Int)<(ts.length:Int):=by omega
        have hix:=str_index t j b hb
        have e6:Hid (wrap64 ((x.2:Int) - 1)=(j:Int)):=Lib.hid (by rw [hj,IntWalk.wrap64_in _ (by omega)];omega)
        have hb8:=b.toNat_lt
        have e7:wrap64 ((b.toNat:Int)+1)=(b.toNat:Int)+1:=IntWalk.wrap64_in _ (by omega)
        have E7:=Lib.hid e7;clear e7
        have hxj:(x.2:Int)=(j:Int)+1:=by omega
        rw [hxj] at c1b d0
        have e9:wrap64 (j:Int)=(j:Int):=step_id j t.length (by omega) (by omega)
        have E9:=Lib.hid e9;clear e9
        have E10:=Lib.hid (step_id b.toNat 256 (by omega) (by omega))
        have e8:wrap64 ((j:Int)+1 - 1)=(j:Int):=by rw [show (j:Int)+1 - 1=(j:Int) by omega];exact step_id j t.length (by omega) (by omega)
        clear h0 hxt h3 hv2 hcs2 hb e6 hxj
        have c_kg1:=f3 kg1;have l_kg1wr:=lt_of kg1
        have c_kg2:=f3 kg2;have l_kg2wr:=lt_of kg2
        go_wp2_with fail
        refine wp_region_noPanic ?_
        refine wp_region_held_drew (S:=fun v=>Below W1.heap.size W1 v∧(W1.heap.size≤v.heap.size)∧ ∀b o,b<W1.heap.size→v.cell? ⟨b,o,none⟩=W1.cell? ⟨b,o,none⟩) (by kernel_rfl) (HeldB.of HB.out.drew) (fun hHeld=> ?_)
        have hB_d:Below wr.heap.size wr wr.drew:=(Below.refl _ _).drew
        generalize wr.drew=wrd at hHeld hB_d⊢
        have e9:=E9.out
        have e7:=E7.out
        have e10:wrap64 (b.toNat:Int)=(b.toNat:Int):=E10.out
        refine ta 0 hHeld ?_
        refine ta 1 hHeld ?_
        refine ta 2 hHeld ?_
        refine ta 3 hHeld ?_
        refine ta 4 hHeld ?_
        refine ta 5 hHeld ?_
        refine ta 6 hHeld ?_
        refine ta 7 hHeld ?_
        refine ta 8 hHeld ?_
        refine ta 9 hHeld ?_
        refine ta 10 hHeld ?_
        refine ta 11 hHeld ?_
        refine ta 12 hHeld ?_
        refine ta 13 hHeld ?_
        refine ta 14 hHeld ?_
        refine ta 15 hHeld ?_
        refine ta 16 hHeld ?_
        refine ta 17 hHeld ?_
        simp only [e7]
        clear e7 e8 e9 e10
        refine rd 18 rfl fun K hK=> ?_
        go_simp
        refine ho hK (HeldB.alloc hHeld _) fun hHeld=> ?_
        clear hK K
        refine rd 19 rfl fun K hK=> ?_
        refine step_moreN (by rfl) _ _ 44 (by rfl) (base:=W1.heap.size) (e:=3) (.int .i64 0) 1 8 (by omega) Tryz.underlying44 (by kernel_rfl) (by rfl) (v:=u4) (by rfl) ((own_below Hown.out hB_d).alloc _) (by rfl) (rds_one wrd #[.int .i64 ((b.toNat:Int)+1)] 3 1 rfl) (by simp [Value.oneCell']) (nm:=i+1) rfl (by omega) (by omega) (by rw [siz_alloc];have:=hB_d.size;omega) ?_
        intro A5 c5 W8 hown8 hlow8 hkeep8
        have HB8:=Lib.hid (low_step (hHeld.1) (Nat.le_refl _) hlow8)
        refine ho hK (HeldB.of HB8.out) fun hHeld=> ?_
        clear hK K
        refine rd 20 rfl fun K hK=> ?_
        go_simp
        refine ho hK hHeld fun hHeld=> ?_
        clear hK K
        refine wpAnyH_done (by kernel_rfl) ?_ _
        refine NoPanic.normal ?_
        have HO8:Hid (W8.ownsRow W1.heap.size 3 1 (.slice A5 (i+1) c5) (i+1) (intCells ((R.take (i+1)).map (symOf ts)))):=Lib.hid (by rw [htake.out,hs.out];exact hown8)
        clear hown8 hlow8 hkeep8 w1a w2a hHeld
        go_wp2_with fail
        go_roundg k
        case measure=>omega
        case rel=>exact ⟨i+1,by first|rfl|(rw [E3.out];rfl),by omega,HO8,HB8⟩
    · have hi:i=R.length:=by omega
      have n1:decide ((i:Int)<(R.length:Int))=false:=by simpa using hlt
      have hown:=Hown.out
      rw [hi,List.take_length] at hown
      have HO:=Lib.hid (own_mono hown hsz1);clear hown Hown
      have HBF:=Lib.hid (below_step HB1.out HB.out)
      go_wp2_with fail
      go_ret
      exact ⟨u4,rfl,HO.out,HBF.out⟩
end
end Go.Proofs.YtlboaaldggpjeaaGreat

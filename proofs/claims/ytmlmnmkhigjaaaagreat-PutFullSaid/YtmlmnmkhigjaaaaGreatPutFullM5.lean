/- Part 5 of what PutFull needs: the walks of the program's functions, and plain facts. -/
import Derived.Test.YtmlmnmkhigjaaaaGreatPutFullM4
set_option linter.unusedSimpArgs false
set_option linter.unusedVariables false
set_option linter.unnecessarySimpa false
namespace Go.Proofs.YtmlmnmkhigjaaaaGreat
set_option maxRecDepth 100000
set_option maxHeartbeats 8000000
section
open Go.RowKit
inductive BitsT (m:Nat):Tr→List Bool→Prop where
  | leaf {l:List Bool}:l≠[]→m≤l.length→l.length≤64→BitsT m (.nd 1 (pack l) l.length .nil .nil .nil .nil) l
  | fork {t0 t1:Tr} {l0 l1:List Bool}:BitsT m t0 l0→BitsT m t1 l1→BitsT m (.nd 2 ((l0++l1).length) ((l0++l1).count true) t0 t1 .nil .nil) (l0++l1)
theorem BitsT.ne {m:Nat} {t:Tr} {l:List Bool} (h:BitsT m t l):l≠[]:=by
  induction h with
  | leaf h1 _ _=>exact h1
  | fork _ _ i0 _=>exact fun e=>i0 (List.append_eq_nil_iff.1 e).1
theorem BitsT.pos {m:Nat} {t:Tr} {l:List Bool} (h:BitsT m t l):1≤l.length:=List.length_pos_iff.2 h.ne
theorem BitsT.mono {m m':Nat} (hm:m'≤m) {t:Tr} {l:List Bool} (h:BitsT m t l):BitsT m' t l:=by
  induction h with
  | leaf h1 h2 h3=>exact .leaf h1 (by omega) h3
  | fork _ _ i0 i1=>exact .fork i0 i1
theorem BitsT.size {t:Tr} {l:List Bool} (h:BitsT 16 t l):8*(t.size+1)≤l.length:=by
  induction h with
  | leaf h1 h2 h3=>simp [Tr.size];omega
  | fork _ _ i0 i1=>simp [Tr.size];omega
theorem BitsT.nd {m:Nat} {t:Tr} {l:List Bool} (h:BitsT m t l):1≤t.size:=by
  cases h<;>simp [Tr.size]
def BitsR (t:Tr) (l:List Bool):Prop:=(t= .nil∧l=[])∨(BitsT 1 t l∧t.size=1)∨BitsT 16 t l
theorem BitsR.cases {t:Tr} {l:List Bool} (h:BitsR t l):(t= .nil∧l=[])∨BitsT 1 t l:=by
  rcases h with h|h|h
  · exact .inl h
  · exact .inr h.1
  · exact .inr (h.mono (by omega))
theorem BitsR.size {t:Tr} {l:List Bool} (h:BitsR t l):8*t.size≤l.length+7:=by
  rcases h with ⟨h, -⟩|h|h
  · subst h;simp [Tr.size]
  · have:=h.1.pos;have:=h.2;omega
  · have:=h.size;omega
theorem unpack_pack (l:List Bool):unpack (pack l) l.length=l:=
  pack_inj (unpack_length _ _) (pack_unpack _ _ (pack_lt l))
theorem rt_pack {l:List Bool} (h:l.length≤64):Rt (pack l) l.length:=⟨by omega,by omega,by simpa using pack_lt l⟩
theorem w64 {x:Int} (h1: -4000000000000000000≤x) (h2:x≤4000000000000000000):wrap64 x=x:=IntWalk.wrap64_in _ (by omega)
theorem w64n (n:Nat) (h:n≤1000000):wrap64 (n:Int)=n:=w64 (by omega) (by omega)
theorem lfB_leaf {l:List Bool} (h:l.length≤64) (k0 k1 k2 k3:Int):lfB ⟨1,k0,k1,k2,k3,pack l,l.length⟩=l∧lfK ⟨1,k0,k1,k2,k3,pack l,l.length⟩=true:=by
  unfold lfB lfK lfL lfOk
  simp only [w64n l.length (by omega),Int.toNat_natCast,rt_pack h,if_true,unpack_pack,decide_true,and_self]
theorem Inv.cpos {s:Ar} {H:List Int} (h:Inv s H) {x:Int} (hx:s.has x=true) (hc:s.cnt x≠0):0<s.cnt x:=by
  obtain ⟨n,rfl,n1,n2,n3⟩:=has_nat hx
  have:=h.cnt n n1 n2 n3
  rw [Ar.cnt_nat n1 n2] at hc⊢
  omega
theorem bIs_nd {s:Ar} {H:List Int} (hI:Inv s H) {m:Nat} {h:Int} {t:Tr} {l:List Bool} (hr:Rep s h t) (hb:BitsT m t l) (hc:s.cnt h≠0):bIs s h=true:=by
  cases hb with
  | leaf h1 h2 h3=>
    obtain ⟨_,_,_,_,hh,hg, -⟩:=hr.get
    simp [bIs,hh,hg,hI.cpos hh hc]
  | fork h1 h2=>
    obtain ⟨_,_,_,_,hh,hg, -⟩:=hr.get
    simp [bIs,hh,hg,hI.cpos hh hc]
theorem has_zero (s:Ar):s.has 0=false:=by simp [Ar.has]
theorem get_zero (s:Ar):s.get 0=Nd.zero:=by unfold Ar.get;rw [has_zero];rfl
theorem bIs_zero (s:Ar):bIs s 0=false:=by simp [bIs,has_zero]
theorem bLen_zero (s:Ar):bLen s 0=0:=by unfold bLen;rw [bIs_zero];rfl
theorem bOnes_zero (s:Ar):bOnes s 0=0:=by unfold bOnes;rw [bIs_zero];rfl
theorem bLen_T {s:Ar} {H:List Int} (hI:Inv s H) {m:Nat} {h:Int} {t:Tr} {l:List Bool} (hr:Rep s h t) (hb:BitsT m t l) (hc:s.cnt h≠0) (hl:l.length≤1000000):bLen s h=l.length:=by
  unfold bLen
  rw [if_pos (bIs_nd hI hr hb hc)]
  cases hb with
  | leaf h1 h2 h3=>
    obtain ⟨_,_,_,_,hh,hg, -⟩:=hr.get
    rw [hg];simp [w64n _ hl]
  | fork h1 h2=>
    obtain ⟨_,_,_,_,hh,hg, -⟩:=hr.get
    rw [hg]
    dsimp only
    rw [if_neg (by omega),w64n _ hl]
theorem rankL_all (l:List Bool) (h:l.length≤1000000):rankL l (wrap64 (l.length:Int))=l.count true:=by
  unfold rankL;rw [w64n _ h,Int.toNat_natCast,List.take_length]
theorem bOnes_T {s:Ar} {H:List Int} (hI:Inv s H) {m:Nat} {h:Int} {t:Tr} {l:List Bool} (hr:Rep s h t) (hb:BitsT m t l) (hc:s.cnt h≠0) (hl:l.length≤1000000):bOnes s h=l.count true:=by
  unfold bOnes
  rw [if_pos (bIs_nd hI hr hb hc)]
  cases hb with
  | leaf h1 h2 h3=>
    obtain ⟨_,_,_,_,hh,hg, -⟩:=hr.get
    rw [hg]
    dsimp only
    rw [if_pos rfl,(lfB_leaf h3 _ _ _ _).1,rankL_all _ hl]
  | @fork t0 t1 l0 l1 h1 h2=>
    obtain ⟨_,_,_,_,hh,hg, -⟩:=hr.get
    rw [hg]
    dsimp only
    have:=List.count_le_length (a:=true) (l:=l0++l1)
    rw [if_neg (by omega),w64n _ (by omega)]
theorem Inv.kids_of {s:Ar} {H:List Int} (hI:Inv s H) {h tag a b k0 k1 k2 k3:Int} (hh:s.has h=true) (hg:s.get h=⟨tag,k0,k1,k2,k3,a,b⟩):(k0≠0→s.cnt k0≠0)∧(k1≠0→s.cnt k1≠0)∧(k2≠0→s.cnt k2≠0)∧(k3≠0→s.cnt k3≠0):=by
  have h4:=fun k hk=>fun h0=>(hI.kid_has (k:=k) hh (by rw [hg];exact hk) h0).2
  exact ⟨h4 _ kid_mem.1,h4 _ kid_mem.2.1,h4 _ kid_mem.2.2.1,h4 _ kid_mem.2.2.2⟩
theorem Rep.ne_of {s:Ar} {h:Int} {m:Nat} {t:Tr} {l:List Bool} (hr:Rep s h t) (hb:BitsT m t l):h≠0:=by
  cases hb<;>exact hr.ne
theorem bGetL_T {s:Ar} {H:List Int} (hI:Inv s H) {m:Nat} {t:Tr} {l:List Bool} (hb:BitsT m t l): ∀{k:Nat} {h i:Int},Rep s h t→s.cnt h≠0→l.length≤1000000→l.length≤k→0≤i→i<l.length→bGetL k s h i=some (l.getD i.toNat false):=by
  induction hb with
  | @leaf l h1 h2 h3=>
    intro k h i hr hc hl hk h0 hi
    obtain ⟨k,rfl⟩: ∃j,k=j+1:=⟨k - 1,by omega⟩
    obtain ⟨_,_,_,_,hh,hg, -⟩:=hr.get
    unfold bGetL
    rw [hg]
    dsimp only
    rw [if_pos rfl,(lfB_leaf h3 _ _ _ _).1]
    simp [getL,h0]
  | @fork t0 t1 l0 l1 b0 b1 i0 i1=>
    intro k h i hr hc hl hk h0 hi
    have p0:=b0.pos;have p1:=b1.pos
    rw [List.length_append] at hl hk hi
    obtain ⟨k,rfl⟩: ∃j,k=j+1:=⟨k - 1,by omega⟩
    obtain ⟨x,y,_,_,hh,hg,r0,r1, -⟩:=hr.get
    obtain ⟨c0,c1, -⟩:=hI.kids_of hh hg
    unfold bGetL
    rw [hg]
    dsimp only
    rw [if_neg (by omega),bLen_T hI r0 b0 (c0 (r0.ne_of b0)) (by omega)]
    by_cases hlow:(l0.length:Int)≤i
    · rw [if_pos hlow,w64 (by omega) (by omega),i1 r1 (c1 (r1.ne_of b1)) (by omega) (by omega) (by omega) (by omega)]
      rw [List.getD_eq_getElem?_getD,List.getD_eq_getElem?_getD,List.getElem?_append_right (by omega)]
      congr 3;omega
    · rw [if_neg hlow,i0 r0 (c0 (r0.ne_of b0)) (by omega) (by omega) (by omega) (by omega)]
      rw [List.getD_eq_getElem?_getD,List.getD_eq_getElem?_getD,List.getElem?_append_left (by omega)]
theorem bRankL_T {s:Ar} {H:List Int} (hI:Inv s H) {m:Nat} {t:Tr} {l:List Bool} (hb:BitsT m t l): ∀{k:Nat} {h i a:Int},Rep s h t→s.cnt h≠0→l.length≤1000000→l.length≤k→0≤i→i≤l.length→0≤a→a+l.length≤2000000→bRankL k s h i a=some (a+((l.take i.toNat).count true:Nat)):=by
  induction hb with
  | @leaf l h1 h2 h3=>
    intro k h i a hr hc hl hk h0 hi ha ha'
    have:=List.length_pos_iff.2 h1
    obtain ⟨k,rfl⟩: ∃j,k=j+1:=⟨k - 1,by omega⟩
    obtain ⟨_,_,_,_,hh,hg, -⟩:=hr.get
    unfold bRankL
    rw [hg]
    dsimp only
    have hcl:=List.count_le_length (a:=true) (l:=l.take i.toNat)
    rw [List.length_take] at hcl
    rw [if_pos rfl,(lfB_leaf h3 _ _ _ _).1]
    unfold rankL
    rw [w64 (by omega) (by omega)]
  | @fork t0 t1 l0 l1 b0 b1 i0 i1=>
    intro k h i a hr hc hl hk h0 hi ha ha'
    have p0:=b0.pos;have p1:=b1.pos
    rw [List.length_append] at hl hk hi ha'
    obtain ⟨k,rfl⟩: ∃j,k=j+1:=⟨k - 1,by omega⟩
    obtain ⟨x,y,_,_,hh,hg,r0,r1, -⟩:=hr.get
    obtain ⟨c0,c1, -⟩:=hI.kids_of hh hg
    have hcl:=List.count_le_length (a:=true) (l:=l0)
    unfold bRankL
    rw [hg]
    dsimp only
    rw [if_neg (by omega),bLen_T hI r0 b0 (c0 (r0.ne_of b0)) (by omega)]
    by_cases hlow:(l0.length:Int)<i
    · rw [if_pos hlow,w64 (x:=i - l0.length) (by omega) (by omega),bOnes_T hI r0 b0 (c0 (r0.ne_of b0)) (by omega),w64 (by omega) (by omega),i1 r1 (c1 (r1.ne_of b1)) (by omega) (by omega) (by omega) (by omega) (by omega) (by omega)]
      rw [List.take_append,List.take_of_length_le (l:=l0) (by omega),List.count_append,show (i - (l0.length:Int)).toNat=i.toNat - l0.length by omega]
      congr 1;omega
    · rw [if_neg hlow,i0 r0 (c0 (r0.ne_of b0)) (by omega) (by omega) (by omega) (by omega) (by omega) (by omega)]
      rw [List.take_append_of_le_length (by omega)]
structure BR (s:Ar) (h:Int) (l:List Bool):Prop where
  ex: ∃t,Rep s h t∧BitsR t l
  live:h≠0→s.cnt h≠0
  short:l.length≤9000
theorem BR.cases {s:Ar} {h:Int} {l:List Bool} (hb:BR s h l):(h=0∧l=[])∨ ∃t,Rep s h t∧BitsT 1 t l∧s.cnt h≠0:=by
  obtain ⟨t,h1,h2⟩:=hb.ex
  rcases h2.cases with ⟨rfl,rfl⟩|h2
  · exact .inl ⟨h1.zero,rfl⟩
  · exact .inr ⟨t,h1,h2,hb.live (h1.ne_of h2)⟩
theorem BR.len {s:Ar} {H:List Int} (hI:Inv s H) {h:Int} {l:List Bool} (hb:BR s h l):bLen s h=l.length:=by
  rcases hb.cases with ⟨rfl,rfl⟩|⟨t,h1,h2,h3⟩
  · exact bLen_zero s
  · exact bLen_T hI h1 h2 h3 (by have:=hb.short;omega)
theorem BR.ones {s:Ar} {H:List Int} (hI:Inv s H) {h:Int} {l:List Bool} (hb:BR s h l):bOnes s h=l.count true:=by
  rcases hb.cases with ⟨rfl,rfl⟩|⟨t,h1,h2,h3⟩
  · exact bOnes_zero s
  · exact bOnes_T hI h1 h2 h3 (by have:=hb.short;omega)
theorem BR.get {s:Ar} {H:List Int} (hI:Inv s H) {h:Int} {l:List Bool} (hb:BR s h l) (i:Int):bGet s h i=if i<0∨(l.length:Int)≤i then some (false,false) else some (l.getD i.toNat false,true):=by
  unfold bGet
  rw [hb.len hI]
  by_cases hi:i<0∨(l.length:Int)≤i
  · rw [if_pos hi,if_pos hi]
  · rw [if_neg hi,if_neg hi]
    have:=hb.short
    rcases hb.cases with ⟨rfl,rfl⟩|⟨t,h1,h2,h3⟩
    · exact absurd hi (by simp only [List.length_nil];omega)
    · rw [bGetL_T hI h2 h1 h3 (by omega) (by unfold rounds;omega) (by omega) (by omega)];rfl
theorem BR.rank {s:Ar} {H:List Int} (hI:Inv s H) {h:Int} {l:List Bool} (hb:BR s h l) (i:Int) (h0:0≤i) (hi:i≤l.length):bRank s h i=some (((l.take i.toNat).count true:Nat):Int):=by
  unfold bRank imin imax
  rw [hb.len hI]
  have hs:=hb.short
  have:(if (if i<0 then 0 else i)<(l.length:Int) then (if i<0 then 0 else i) else (l.length:Int))=i:=by
    rw [if_neg (show¬i<0 by omega)]
    split<;>omega
  rw [this]
  by_cases e:i=0
  · subst e;rw [if_pos rfl];simp
  · rw [if_neg e]
    rcases hb.cases with ⟨rfl,rfl⟩|⟨t,h1,h2,h3⟩
    · simp at hi;omega
    · rw [bRankL_T hI h2 h1 h3 (by omega) (by unfold rounds;omega) h0 hi (by omega) (by omega)]
      congr 1;omega
theorem BR.grow {s s':Ar} {h:Int} {l:List Bool} (hb:BR s h l) (hg:Grow s s') (hc:h≠0→s'.cnt h≠0):BR s' h l:=by
  obtain ⟨t,h1,h2⟩:=hb.ex
  exact ⟨⟨t,h1.grow hg,h2⟩,hc,hb.short⟩
theorem Inv.zeros4 {s:Ar} {H:List Int} (h:Inv s H) (hl:H.length≤999900):Inv s ([0,0,0,0]++H):=
  (((h.zero_cons (by omega)).zero_cons (by simp;omega)).zero_cons (by simp;omega)).zero_cons (by simp;omega)
theorem Inv.zeros2 {s:Ar} {x y:Int} {H:List Int} (h:Inv s (x::y::H)) (hl:H.length≤999900):Inv s ([x,y,0,0]++H):=
  ((h.zero_cons (by simp;omega)).zero_cons (by simp;omega)).perm (by
    have:(([0,0]:List Int)++([x,y]++H)).Perm ([x,y]++([0,0]++H)):=by
      rw [←List.append_assoc,←List.append_assoc]
      exact List.perm_append_comm.append_right H
    exact this)
theorem u64_in {x:Int} (h1:0≤x) (h2:x<18446744073709551616):u64 x=x:=wrap_u64 h1 h2
theorem leaf_T {t : Tb} {H : List Int} (hI : Inv t.s H) (hH : H.length ≤ 990000) {m : Nat} {l : List Bool} (h1 : l ≠ []) (h2 : m ≤ l.length) (h3 : l.length ≤ 64) :
    Nw t (t.leaf l).2 (t.leaf l).1 H 1∧((t.leaf l).2.e=0→ ∃t',Rep (t.leaf l).2.s (t.leaf l).1 t'∧BitsT m t' l∧t'.size=1):=by
  have hp:=pack_lt64 h3
  obtain ⟨a,b⟩:=nodeD_nw (t:=t) (n:=⟨1,0,0,0,0,pack l,l.length⟩) (l:=[0,0,0,0]) (hI.zeros4 (by omega)) (by simp) (by omega) ⟨by dsimp only;omega,by dsimp only;omega⟩ ⟨by show (0:Int)≤(pack l:Int);omega,by show (pack l:Int)<_;omega⟩ (by simp [Nd.kids])
  refine ⟨a,fun he=> ?_⟩
  obtain ⟨-,b2,b3⟩:=b he
  exact ⟨_, .nd b2 b3 .nil .nil .nil .nil, .leaf h1 h2 h3,rfl⟩
theorem pair_T {t : Tb} {x y : Int} {H : List Int} (hI : Inv t.s (x :: y :: H)) (hH : H.length ≤ 990000) {m : Nat} {l0 l1 : List Bool} (hl : (l0 ++ l1).length ≤ 1000000)
    (h:t.e=0→(∃t0,Rep t.s x t0∧BitsT m t0 l0)∧ ∃t1,Rep t.s y t1∧BitsT m t1 l1):
    Nw t (t.pair x y).2 (t.pair x y).1 H 1∧((t.pair x y).2.e=0→ ∃t',Rep (t.pair x y).2.s (t.pair x y).1 t'∧BitsT m t' (l0++l1)):=by
  obtain ⟨a,b⟩:=nodeD_nw (t:=t) (n:=⟨2,x,y,0,0,u64 (wrap64 (bLen t.s x+bLen t.s y)),u64 (wrap64 (bOnes t.s x+bOnes t.s y))⟩) (l:=[x,y,0,0]) (hI.zeros2 (by omega)) (by simp) (by omega) ⟨by dsimp only;omega,by dsimp only;omega⟩ (U64.u64 _) (fun _ k hk h0=>hk)
  refine ⟨a,fun he=> ?_⟩
  obtain ⟨b1,b2,b3⟩:=b he
  obtain ⟨⟨t0,r0,q0⟩,t1,r1,q1⟩:=h b1
  have c0:t.s.cnt x≠0:=hI.pos (by simp) (r0.ne_of q0)
  have c1:t.s.cnt y≠0:=hI.pos (by simp) (r1.ne_of q1)
  rw [List.length_append] at hl
  have hc0:=List.count_le_length (a:=true) (l:=l0)
  have hc1:=List.count_le_length (a:=true) (l:=l1)
  refine ⟨_, .nd b2 ?_ (r0.grow a.grow) (r1.grow a.grow) .nil .nil, .fork q0 q1⟩
  refine b3.trans ?_
  rw [bLen_T hI r0 q0 c0 (by omega),bLen_T hI r1 q1 c1 (by omega),bOnes_T hI r0 q0 c0 (by omega),bOnes_T hI r1 q1 c1 (by omega),w64 (by omega) (by omega),w64 (by omega) (by omega),u64_in (by omega) (by omega),u64_in (by omega) (by omega)]
  simp
theorem drops_nw {t:Tb} {l H:List Int} (hI:Inv t.s (l++H)) (hH:H.length≤990000):Nw t (t.drops l) 0 H 0:=
  ⟨(Inv.dropAll hI).zero_cons (by omega),Grow.dropAll _ _,fun _=>rfl,fun _=>rfl,by show (t.s.dropAll l).busyN≤_;rw [busyN_dropAll];omega,fun a b=>absurd a b⟩
theorem pairOr_T {t : Tb} {x y : Int} {H : List Int} (hI : Inv t.s (x :: y :: H)) (hH : H.length ≤ 990000) {m : Nat} {l0 l1 : List Bool} (hl : (l0 ++ l1).length ≤ 1000000)
    (h:t.e=0→(∃t0,Rep t.s x t0∧BitsT m t0 l0)∧ ∃t1,Rep t.s y t1∧BitsT m t1 l1):
    Nw t (t.pairOr x y).2 (t.pairOr x y).1 H 1∧((t.pairOr x y).2.e=0→ ∃t',Rep (t.pairOr x y).2.s (t.pairOr x y).1 t'∧BitsT m t' (l0++l1)):=by
  unfold Tb.pairOr
  by_cases he:t.e=0
  · rw [if_pos he];exact pair_T hI hH hl h
  · rw [if_neg he]
    exact ⟨(drops_nw (l:=[x,y]) hI hH).mono (by omega),fun h'=>absurd h' he⟩
theorem Inv.swap {s:Ar} {x y:Int} {H:List Int} (h:Inv s (x::y::H)):Inv s (y::x::H):=h.perm (List.Perm.swap _ _ _)
theorem two_T {t : Tb} {H : List Int} (hI : Inv t.s H) (hH : H.length ≤ 980000) {m : Nat} {a b : List Bool} (ha : a ≠ []) (hb : b ≠ []) (ma : m ≤ a.length) (mb : m ≤ b.length) (la : a.length ≤ 64) (lb : b.length ≤ 64) :
    Nw t (t.two a b).2 (t.two a b).1 H 3∧((t.two a b).2.e=0→ ∃t',Rep (t.two a b).2.s (t.two a b).1 t'∧BitsT m t' (a++b)):=by
  show Nw t (((t.leaf a).2.leaf b).2.pairOr (t.leaf a).1 ((t.leaf a).2.leaf b).1).2 (((t.leaf a).2.leaf b).2.pairOr (t.leaf a).1 ((t.leaf a).2.leaf b).1).1 H 3∧_
  obtain ⟨n1,r1⟩:=leaf_T (t:=t) (l:=a) hI (by omega) ha ma la
  obtain ⟨n2,r2⟩:=leaf_T (t:=(t.leaf a).2) (l:=b) n1.inv (by simp;omega) hb mb lb
  obtain ⟨n3,r3⟩:=pairOr_T (m:=m) (l0:=a) (l1:=b) (H:=H) n2.inv.swap (by omega) (by simp;omega) fun he=>by
    obtain ⟨t0,q0,q1, -⟩:=r1 (n2.ok he)
    obtain ⟨t1,q2,q3, -⟩:=r2 he
    exact ⟨⟨t0,q0.grow n2.grow,q1⟩,t1,q2,q3⟩
  exact ⟨(n1.trans n2).trans n3,r3⟩
theorem bHigh_T {s : Ar} {H : List Int} (hI : Inv s H) {m : Nat} {t : Tr} {l : List Bool} (hb : BitsT m t l) : ∀ {k : Nat} {h : Int}, Rep s h t → s.cnt h ≠ 0 → l.length ≤ 1000000 → l.length < k →
    ∃p,bHigh k s h=some p∧1≤p∧p≤l.length∧(p≠1→ ∃a b t0 t1 l0 l1,t= .nd 2 a b t0 t1 .nil .nil∧l=l0++l1∧BitsT m t0 l0∧BitsT m t1 l1):=by
  induction hb with
  | @leaf l h1 h2 h3=>
    intro k h hr hc hl hk
    have:=List.length_pos_iff.2 h1
    obtain ⟨k,rfl⟩: ∃j,k=j+1:=⟨k - 1,by omega⟩
    have hi:=bIs_nd hI hr (.leaf h1 h2 h3) hc
    obtain ⟨_,_,_,_,hh,hg, -⟩:=hr.get
    refine ⟨1,?_,by omega,by omega,fun h=>absurd rfl h⟩
    unfold bHigh
    rw [if_pos hi,hg]
    dsimp only
    rw [if_pos rfl]
  | @fork t0 t1 l0 l1 b0 b1 i0 i1=>
    intro k h hr hc hl hk
    have p0:=b0.pos;have p1:=b1.pos
    rw [List.length_append] at hl hk
    obtain ⟨k,rfl⟩: ∃j,k=j+1:=⟨k - 1,by omega⟩
    have hi:=bIs_nd hI hr (.fork b0 b1) hc
    obtain ⟨x,y,_,_,hh,hg,r0,r1, -⟩:=hr.get
    obtain ⟨c0,c1, -⟩:=hI.kids_of hh hg
    obtain ⟨p,e0,e1,e2, -⟩:=i0 r0 (c0 (r0.ne_of b0)) (by omega) (k:=k) (by omega)
    obtain ⟨q,f0,f1,f2, -⟩:=i1 r1 (c1 (r1.ne_of b1)) (by omega) (k:=k) (by omega)
    have hw:wrap64 (1+imax p q)=1+imax p q:=w64 (by unfold imax;split<;>omega) (by unfold imax;split<;>omega)
    refine ⟨1+imax p q,?_,by unfold imax;split<;>omega,by rw [List.length_append];unfold imax;split<;>omega,fun _=>⟨_,_,_,_,_,_,rfl,rfl,b0,b1⟩⟩
    unfold bHigh
    rw [if_pos hi,hg]
    dsimp only
    rw [if_neg (by omega),e0,f0]
    simp only [Option.bind_some,hw]
theorem opened_T {t : Tb} {x tag a b : Int} {t0 t1 t2 t3 : Tr} {H : List Int} (hI : Inv t.s (x :: H)) (hH : H.length ≤ 990000) (hr : Rep t.s x (.nd tag a b t0 t1 t2 t3)) :
    Inv (t.opened x).s ((t.s.get x).k0::(t.s.get x).k1::H)∧Grow t.s (t.opened x).s∧(t.opened x).s.busyN=t.s.busyN∧(t.opened x).e=t.e∧Rep (t.opened x).s (t.s.get x).k0 t0∧Rep (t.opened x).s (t.s.get x).k1 t1:=by
  obtain ⟨k0,k1,k2,k3,hh,hg,r0,r1, -⟩:=hr.get
  rw [hg]
  dsimp only
  unfold Tb.opened
  rw [hg]
  dsimp only
  have hK: ∀{s:Ar} {R:List Int} {k:Int},Inv s R→R.length≤999990→(k≠0→s.cnt k≠0)→Inv (s.keep k) (k::R):=fun {s R k} h hl hk=>by
    by_cases h0:k=0
    · subst h0;rw [keep_zero];exact h.zero_cons (by omega)
    · exact h.keep (by omega) (hk h0)
  have g1:=Grow.keep t.s k0
  have j1:=hK hI (by simp;omega) (hI.kids_of hh hg).1
  have g2:=Grow.keep (t.s.keep k0) k1
  have j2:=hK j1 (by simp;omega) (j1.kids_of (g1.has hh).1 ((g1.has hh).2.trans hg)).2.1
  have g3:=Grow.drop ((t.s.keep k0).keep k1) x
  have g:=(g1.trans g2).trans g3
  refine ⟨(j2.perm ?_:Inv _ (x::k0::k1::H)).drop,g,by rw [busyN_drop,busyN_keep,busyN_keep],rfl,r0.grow g,r1.grow g⟩
  exact ((List.Perm.swap _ _ _).trans ((List.Perm.swap _ _ _).cons _)).trans ((List.Perm.swap _ _ _))|>.trans (by exact ((List.Perm.refl _)))
end
section
open Go.RowKit
theorem fork_T {t : Tb} {x y : Int} {H : List Int} (hI : Inv t.s (x :: y :: H)) (hH : H.length ≤ 980000) {m : Nat} {l0 l1 : List Bool} (hl : (l0 ++ l1).length ≤ 9900)
    (h:t.e=0→(∃t0,Rep t.s x t0∧BitsT m t0 l0)∧ ∃t1,Rep t.s y t1∧BitsT m t1 l1):
    ∃r,t.fork x y=some r∧Nw t r.2 r.1 H 3∧(r.2.e=0→ ∃t',Rep r.2.s r.1 t'∧BitsT m t' (l0++l1)):=by
  unfold Tb.fork
  by_cases he:t.e=0
  rotate_left
  · rw [if_neg he]
    exact ⟨_,rfl,(drops_nw (l:=[x,y]) hI (by omega)).mono (by omega),fun h'=>absurd h' he⟩
  rw [if_pos he]
  obtain ⟨⟨t0,r0,q0⟩,t1,r1,q1⟩:=h he
  have c0:t.s.cnt x≠0:=hI.pos (by simp) (r0.ne_of q0)
  have c1:t.s.cnt y≠0:=hI.pos (by simp) (r1.ne_of q1)
  rw [List.length_append] at hl
  obtain ⟨p,e0,e1,e2,e3⟩:=bHigh_T hI q0 (k:=rounds) r0 c0 (by omega) (by unfold rounds;omega)
  obtain ⟨q,f0,f1,f2,f3⟩:=bHigh_T hI q1 (k:=rounds) r1 c1 (by omega) (by unfold rounds;omega)
  rw [e0,f0,Option.bind_some,Option.bind_some,w64 (x:=q+1) (by omega) (by omega),w64 (x:=p+1) (by omega) (by omega)]
  by_cases hA:q+1<p
  · rw [if_pos hA]
    obtain ⟨a,b,u,v,lu,lv,rfl,rfl,qu,qv⟩:=e3 (by omega)
    obtain ⟨o1,o2,o3,o4,o5,o6⟩:=opened_T hI (by simp;omega) r0
    rw [List.length_append] at hl
    have cu:(t.opened x).s.cnt (t.s.get x).k0≠0:=o1.pos (by simp) (o5.ne_of qu)
    have cv:(t.opened x).s.cnt (t.s.get x).k1≠0:=o1.pos (by simp) (o6.ne_of qv)
    obtain ⟨pu,g0,g1,g2,g3⟩:=bHigh_T o1 qu (k:=rounds) o5 cu (by omega) (by unfold rounds;omega)
    obtain ⟨pv,j0,j1,j2,j3⟩:=bHigh_T o1 qv (k:=rounds) o6 cv (by omega) (by unfold rounds;omega)
    dsimp only
    rw [g0,j0,Option.bind_some,Option.bind_some]
    have nO:Nw t (t.opened x) (t.s.get x).k0 ((t.s.get x).k1::y::H) 0:=⟨o1,o2,fun e=>absurd (o4.trans he) e,fun e=>absurd he e,by omega,fun _ e=>absurd (o4.trans he) e⟩
    by_cases hB:pv≤pu
    · rw [if_pos hB]
      obtain ⟨n1,s1⟩:=pair_T (t:=t.opened x) (x:=(t.s.get x).k1) (y:=y) (H:=(t.s.get x).k0::H) (m:=m) (l0:=lv) (l1:=l1) (o1.perm ((List.Perm.swap _ _ _).trans ((List.Perm.swap _ _ _).cons _))) (by simp;omega) (by simp;omega) (fun _=>⟨⟨_,o6,qv⟩,_,r1.grow o2,q1⟩)
      obtain ⟨n2,s2⟩:=pair_T (m:=m) (l0:=lu) (l1:=lv++l1) n1.inv.swap (by omega) (by simp;omega) (fun e=>⟨⟨_,o5.grow n1.grow,qu⟩,s1 e⟩)
      exact ⟨_,rfl,((nO.trans n1).trans n2).mono (by omega),fun e=>by rw [List.append_assoc];exact s2 e⟩
    · rw [if_neg hB]
      obtain ⟨a',b',w,z,lw,lz,rfl,rfl,qw,qz⟩:=j3 (by omega)
      obtain ⟨v1,v2,v3,v4,v5,v6⟩:=opened_T (t:=t.opened x) (x:=(t.s.get x).k1) (H:=(t.s.get x).k0::y::H) o1.swap (by simp;omega) o6
      rw [List.length_append] at hl
      obtain ⟨n1,s1⟩:=pair_T (t:=(t.opened x).opened (t.s.get x).k1) (x:=(t.s.get x).k0) (y:=((t.opened x).s.get (t.s.get x).k1).k0) (H:=((t.opened x).s.get (t.s.get x).k1).k1::y::H) (m:=m) (l0:=lu) (l1:=lw)
        (v1.perm (((List.Perm.swap _ _ _).cons _).trans ((List.Perm.swap _ _ _).trans ((List.Perm.refl _).cons _)))) (by simp;omega) (by simp;omega) (fun _=>⟨⟨_,o5.grow v2,qu⟩,_,v5,qw⟩)
      obtain ⟨n2,s2⟩:=pair_T (m:=m) (x:=((t.opened x).s.get (t.s.get x).k1).k1) (y:=y) (H:=(((t.opened x).opened (t.s.get x).k1).pair (t.s.get x).k0 ((t.opened x).s.get (t.s.get x).k1).k0).1::H) (l0:=lz) (l1:=l1) (n1.inv.perm ((List.Perm.swap _ _ _).trans ((List.Perm.swap _ _ _).cons _))) (by simp;omega) (by simp;omega) (fun e=>⟨⟨_,v6.grow n1.grow,qz⟩,_,(r1.grow (o2.trans v2)).grow n1.grow,q1⟩)
      obtain ⟨n3,s3⟩:=pair_T (m:=m) (l0:=lu++lw) (l1:=lz++l1) n2.inv.swap (by omega) (by simp;omega) (fun e=>by
        obtain ⟨z0,z1,z2⟩:=s1 (n2.ok e)
        exact ⟨⟨z0,z1.grow n2.grow,z2⟩,s2 e⟩)
      have nP:Nw (t.opened x) ((t.opened x).opened (t.s.get x).k1) ((t.opened x).s.get (t.s.get x).k1).k0 (((t.opened x).s.get (t.s.get x).k1).k1::(t.s.get x).k0::y::H) 0:=⟨v1,v2,fun e=>absurd (v4.trans (o4.trans he)) e,fun e=>absurd (o4.trans he) e,by omega,fun _ e=>absurd (v4.trans (o4.trans he)) e⟩
      refine ⟨_,rfl,((((nO.trans nP).trans n1).trans n2).trans n3).mono (by omega),fun e=> ?_⟩
      have:=s3 e
      rw [show (lu++(lw++lz))++l1=(lu++lw)++(lz++l1) by simp]
      exact this
  rw [if_neg hA]
  by_cases hA':p+1<q
  · rw [if_pos hA']
    obtain ⟨a,b,u,v,lu,lv,rfl,rfl,qu,qv⟩:=f3 (by omega)
    obtain ⟨o1,o2,o3,o4,o5,o6⟩:=opened_T (x:=y) (H:=x::H) hI.swap (by simp;omega) r1
    rw [List.length_append] at hl
    have cu:(t.opened y).s.cnt (t.s.get y).k0≠0:=o1.pos (by simp) (o5.ne_of qu)
    have cv:(t.opened y).s.cnt (t.s.get y).k1≠0:=o1.pos (by simp) (o6.ne_of qv)
    obtain ⟨pu,g0,g1,g2,g3⟩:=bHigh_T o1 qu (k:=rounds) o5 cu (by omega) (by unfold rounds;omega)
    obtain ⟨pv,j0,j1,j2,j3⟩:=bHigh_T o1 qv (k:=rounds) o6 cv (by omega) (by unfold rounds;omega)
    dsimp only
    rw [j0,g0,Option.bind_some,Option.bind_some]
    have nO:Nw t (t.opened y) (t.s.get y).k0 ((t.s.get y).k1::x::H) 0:=⟨o1,o2,fun e=>absurd (o4.trans he) e,fun e=>absurd he e,by omega,fun _ e=>absurd (o4.trans he) e⟩
    by_cases hB:pu≤pv
    · rw [if_pos hB]
      obtain ⟨n1,s1⟩:=pair_T (t:=t.opened y) (x:=x) (y:=(t.s.get y).k0) (H:=(t.s.get y).k1::H) (m:=m) (l0:=l0) (l1:=lu) (o1.perm (((List.Perm.swap _ _ _).cons _).trans (List.Perm.swap _ _ _))) (by simp;omega) (by simp;omega) (fun _=>⟨⟨_,r0.grow o2,q0⟩,_,o5,qu⟩)
      obtain ⟨n2,s2⟩:=pair_T (m:=m) (l0:=l0++lu) (l1:=lv) n1.inv (by omega) (by simp;omega) (fun e=>⟨s1 e,_,o6.grow n1.grow,qv⟩)
      exact ⟨_,rfl,((nO.trans n1).trans n2).mono (by omega),fun e=>by rw [←List.append_assoc];exact s2 e⟩
    · rw [if_neg hB]
      obtain ⟨a',b',w,z,lw,lz,rfl,rfl,qw,qz⟩:=g3 (by omega)
      obtain ⟨v1,v2,v3,v4,v5,v6⟩:=opened_T (t:=t.opened y) (x:=(t.s.get y).k0) (H:=(t.s.get y).k1::x::H) o1 (by simp;omega) o5
      rw [List.length_append] at hl
      obtain ⟨n1,s1⟩:=pair_T (t:=(t.opened y).opened (t.s.get y).k0) (x:=x) (y:=((t.opened y).s.get (t.s.get y).k0).k0) (H:=((t.opened y).s.get (t.s.get y).k0).k1::(t.s.get y).k1::H) (m:=m) (l0:=l0) (l1:=lw)
        (v1.perm ((((((List.Perm.swap _ _ _).cons _).cons _).trans ((List.Perm.swap _ _ _).cons _)).trans (List.Perm.swap _ _ _)))) (by simp;omega) (by simp;omega) (fun _=>⟨⟨_,(r0.grow o2).grow v2,q0⟩,_,v5,qw⟩)
      obtain ⟨n2,s2⟩:=pair_T (m:=m) (x:=((t.opened y).s.get (t.s.get y).k0).k1) (y:=(t.s.get y).k1) (H:=(((t.opened y).opened (t.s.get y).k0).pair x ((t.opened y).s.get (t.s.get y).k0).k0).1::H) (l0:=lz) (l1:=lv) (n1.inv.perm ((List.Perm.swap _ _ _).trans ((List.Perm.swap _ _ _).cons _))) (by simp;omega) (by simp;omega) (fun e=>⟨⟨_,v6.grow n1.grow,qz⟩,_,(o6.grow v2).grow n1.grow,qv⟩)
      obtain ⟨n3,s3⟩:=pair_T (m:=m) (l0:=l0++lw) (l1:=lz++lv) n2.inv.swap (by omega) (by simp;omega) (fun e=>by
        obtain ⟨z0,z1,z2⟩:=s1 (n2.ok e)
        exact ⟨⟨z0,z1.grow n2.grow,z2⟩,s2 e⟩)
      have nP:Nw (t.opened y) ((t.opened y).opened (t.s.get y).k0) ((t.opened y).s.get (t.s.get y).k0).k0 (((t.opened y).s.get (t.s.get y).k0).k1::(t.s.get y).k1::x::H) 0:=⟨v1,v2,fun e=>absurd (v4.trans (o4.trans he)) e,fun e=>absurd (o4.trans he) e,by omega,fun _ e=>absurd (v4.trans (o4.trans he)) e⟩
      refine ⟨_,rfl,((((nO.trans nP).trans n1).trans n2).trans n3).mono (by omega),fun e=> ?_⟩
      have:=s3 e
      rw [show l0++((lw++lz)++lv)=(l0++lw)++(lz++lv) by simp]
      exact this
  rw [if_neg hA']
  obtain ⟨n1,s1⟩:=pair_T (t:=t) (x:=x) (y:=y) (H:=H) (m:=m) (l0:=l0) (l1:=l1) hI (by omega) (by simp;omega) (fun _=>⟨⟨_,r0,q0⟩,_,r1,q1⟩)
  exact ⟨_,rfl,n1.mono (by omega),s1⟩
theorem insL_length' (l:List Bool) (i:Nat) (b:Bool) (h:i≤l.length):(insL l i b).length=l.length+1:=by
  unfold insL;simp;omega
theorem insL_left (a b:List Bool) (i:Nat) (x:Bool) (h:i≤a.length):insL (a++b) i x=insL a i x++b:=by
  unfold insL
  rw [List.take_append_of_le_length h,List.drop_append_of_le_length h];simp
theorem insL_right (a b:List Bool) (i:Nat) (x:Bool) (h:a.length≤i):insL (a++b) i x=a++insL b (i - a.length) x:=by
  unfold insL
  rw [List.take_append,List.drop_append,List.take_of_length_le h,List.drop_of_length_le h];simp
theorem insR_in {l:List Bool} {i:Int} (one:Bool) (h0:0≤i) (hi:i≤l.length) (hl:l.length<64):insOk true l i=true∧insR true l i one=insL l i.toNat one:=by
  have:insOk true l i=true:=by unfold insOk;simp [h0,hi];omega
  refine ⟨this,?_⟩
  unfold insR;rw [if_pos this]
theorem ins_leaf {s : Ar} {H : List Int} (hI : Inv s H) (hH : H.length ≤ 980000) {m : Nat} (hm : m ≤ 32) {h : Int} {l : List Bool} (hr : Rep s h (.nd 1 (pack l) l.length .nil .nil .nil .nil)) (hne : l ≠ []) (hml : m ≤ l.length) (h64 : l.length ≤ 64) (hc : s.cnt h ≠ 0)
    (k:Nat) (i:Int) (one:Bool) (h0:0≤i) (hi:i≤l.length):
    ∃r,Tb.insert (k+1) ⟨s,0⟩ h i one=some r∧Nw ⟨s,0⟩ r.2 r.1 H 3∧(r.2.e=0→ ∃t',Rep r.2.s r.1 t'∧BitsT m t' (insL l i.toNat one)∧(l.length<64→t'.size=1)∧(l.length=64→BitsT 32 t' (insL l i.toNat one))):=by
  have hb:=bIs_nd hI hr (.leaf hne hml h64) hc
  obtain ⟨ka,kb,kc,kd,hh,hg, -⟩:=hr.get
  obtain ⟨lb,lk⟩:=lfB_leaf h64 ka kb kc kd
  unfold Tb.insert
  rw [if_pos hb,hg]
  dsimp only
  rw [if_pos rfl,lb,lk]
  have hlen:=insL_length' l i.toNat one (by omega)
  by_cases hf:l.length<64
  · obtain ⟨i1,i2⟩:=insR_in one h0 hi hf
    rw [if_pos i1,i2]
    obtain ⟨n1,s1⟩:=leaf_T (t:=⟨s,0⟩) (H:=H) (m:=m) (l:=insL l i.toNat one) hI (by omega) (by intro e;rw [e] at hlen;simp at hlen) (by omega) (by omega)
    refine ⟨_,rfl,n1.mono (by omega),fun e=> ?_⟩
    obtain ⟨t',a,b,c⟩:=s1 e
    exact ⟨t',a,b,fun _=>c,fun h=>by omega⟩
  · have hno:insOk true l i=false:=by unfold insOk;simp;omega
    rw [if_neg (by rw [hno];decide)]
    have hta:(l.take 32).length=32:=by rw [List.length_take];omega
    have htb:(l.drop 32).length=32:=by rw [List.length_drop];omega
    have hcat:l=l.take 32++l.drop 32:=(List.take_append_drop 32 l).symm
    rw [hta]
    have hnn: ∀x:List Bool,1≤x.length→x≠[]:=fun x hx e=>by rw [e] at hx;simp at hx
    by_cases hs:i≤((32:Nat):Int)
    · rw [if_pos hs,(insR_in one h0 (by omega) (by omega)).2]
      have hla:=insL_length' (l.take 32) i.toNat one (by omega)
      obtain ⟨n1,s1⟩:=two_T (t:=⟨s,0⟩) (H:=H) (m:=32) (a:=insL (l.take 32) i.toNat one) (b:=l.drop 32) hI (by omega) (hnn _ (by omega)) (hnn _ (by omega)) (by omega) (by omega) (by omega) (by omega)
      have heq:insL l i.toNat one=insL (l.take 32) i.toNat one++l.drop 32:=by
        rw [←insL_left _ _ _ _ (by omega),←hcat]
      refine ⟨_,rfl,n1,fun e=> ?_⟩
      obtain ⟨t',a,b⟩:=s1 e
      rw [heq]
      exact ⟨t',a,b.mono hm,fun h=>by omega,fun _=>b⟩
    · rw [if_neg hs,w64 (by omega) (by omega),(insR_in one (by omega) (by omega) (by omega)).2]
      have hla:=insL_length' (l.drop 32) (i - ((32:Nat):Int)).toNat one (by omega)
      obtain ⟨n1,s1⟩:=two_T (t:=⟨s,0⟩) (H:=H) (m:=32) (a:=l.take 32) (b:=insL (l.drop 32) (i - ((32:Nat):Int)).toNat one) hI (by omega) (hnn _ (by omega)) (hnn _ (by omega)) (by omega) (by omega) (by omega) (by omega)
      have heq:insL l i.toNat one=l.take 32++insL (l.drop 32) (i - ((32:Nat):Int)).toNat one:=by
        rw [show (i - ((32:Nat):Int)).toNat=i.toNat - (l.take 32).length by omega,←insL_right _ _ _ _ (by omega),←hcat]
      refine ⟨_,rfl,n1,fun e=> ?_⟩
      obtain ⟨t',a,b⟩:=s1 e
      rw [heq]
      exact ⟨t',a,b.mono hm,fun h=>by omega,fun _=>b⟩
theorem Nw.keepL {s:Ar} {x:Int} {e:Int} {t':Tb} {h:Int} {H:List Int} {c:Nat} (hn:Nw ⟨s.keep x,e⟩ t' h H c):Nw ⟨s,e⟩ t' h H c:=
  ⟨hn.inv,(Grow.keep s x).trans hn.grow,hn.bad,hn.sticky,by have:=hn.cost;rw [busyN_keep] at this;exact this,fun a b=>by have:=hn.full a b;rw [busyN_keep,Ar.keep_size] at this;exact this⟩
theorem Nw.keepR {t t':Tb} {x h:Int} {H:List Int} {c:Nat} (hn:Nw t t' h H c) (hH:H.length≤990000) (hx:x≠0→t'.s.cnt x≠0):Nw t (t'.keep x) h (x::H) c:=by
  have hi:Inv (t'.s.keep x) (x::h::H):=by
    by_cases h0:x=0
    · subst h0;rw [keep_zero];exact hn.inv.zero_cons (by simp;omega)
    · exact hn.inv.keep (by simp;omega) (hx h0)
  exact ⟨hi.swap,hn.grow.trans (Grow.keep _ _),hn.bad,hn.sticky,by show (t'.s.keep x).busyN≤_;rw [busyN_keep];exact hn.cost,hn.full⟩
theorem insert_T {m : Nat} (hm : m ≤ 32) {t : Tr} {l : List Bool} (hb : BitsT m t l) : ∀ {k : Nat} {s : Ar} {H : List Int} {h i : Int} (one : Bool), Inv s H → Rep s h t → s.cnt h ≠ 0 → l.length ≤ 9000 → l.length ≤ k → H.length + l.length ≤ 970000 → 0 ≤ i → i ≤ l.length →
    ∃r,Tb.insert k ⟨s,0⟩ h i one=some r∧Nw ⟨s,0⟩ r.2 r.1 H (3*t.size)∧(r.2.e=0→ ∃t',Rep r.2.s r.1 t'∧BitsT m t' (insL l i.toNat one)):=by
  induction hb with
  | @leaf l h1 h2 h3=>
    intro k s H h i one hI hr hc hl hk hH h0 hi
    have:=List.length_pos_iff.2 h1
    obtain ⟨k,rfl⟩: ∃j,k=j+1:=⟨k - 1,by omega⟩
    obtain ⟨r,a,b,c⟩:=ins_leaf hI (by omega) hm hr h1 h2 h3 hc k i one h0 hi
    refine ⟨r,a,b.mono (by simp [Tr.size]),fun e=> ?_⟩
    obtain ⟨t',x,y, -⟩:=c e
    exact ⟨t',x,y⟩
  | @fork t0 t1 l0 l1 b0 b1 i0 i1=>
    intro k s H h i one hI hr hc hl hk hH h0 hi
    have p0:=b0.pos;have p1:=b1.pos
    have hbi:=bIs_nd hI hr (.fork b0 b1) hc
    rw [List.length_append] at hl hk hi hH
    obtain ⟨k,rfl⟩: ∃j,k=j+1:=⟨k - 1,by omega⟩
    obtain ⟨x,y,_,_,hh,hg,r0,r1, -⟩:=hr.get
    obtain ⟨c0,c1, -⟩:=hI.kids_of hh hg
    have x0:=r0.ne_of b0;have y0:=r1.ne_of b1
    unfold Tb.insert
    rw [if_pos hbi,hg]
    dsimp only
    rw [if_neg (by omega),bLen_T hI r0 b0 (c0 x0) (by omega)]
    by_cases hlow:(l0.length:Int)<i
    · rw [if_pos hlow,w64 (by omega) (by omega)]
      show∃r,((Tb.insert k ⟨s.keep x,0⟩ y (i - l0.length) one).bind fun r=>r.2.fork x r.1)=some r∧_
      have g1:=Grow.keep s x
      have j1:=hI.keep (by omega) (c0 x0)
      have c1':=(j1.kids_of (g1.has hh).1 ((g1.has hh).2.trans hg)).2.1 y0
      obtain ⟨r,a,b,c⟩:=i1 (k:=k) (i:=i - l0.length) one j1 (r1.grow g1) c1' (by omega) (by omega) (by simp;omega) (by omega) (by omega)
      rw [a,Option.bind_some]
      have hlen:=insL_length' l1 (i - (l0.length:Int)).toNat one (by omega)
      obtain ⟨r',a',b',c'⟩:=fork_T (t:=r.2) (x:=x) (y:=r.1) (H:=H) (m:=m) (l0:=l0) (l1:=insL l1 (i - l0.length).toNat one) b.inv.swap (by omega) (by rw [List.length_append];omega) (fun e=>⟨⟨_,(r0.grow g1).grow b.grow,b0⟩,c e⟩)
      refine ⟨r',a',(b.keepL.trans b').mono (by simp only [Tr.size];omega),fun e=> ?_⟩
      rw [insL_right _ _ _ _ (by omega),show i.toNat - l0.length=(i - (l0.length:Int)).toNat by omega]
      exact c' e
    · rw [if_neg hlow]
      obtain ⟨r,a,b,c⟩:=i0 (k:=k) one hI r0 (c0 x0) (by omega) (by omega) (by omega) h0 (by omega)
      rw [a,Option.bind_some]
      have hlen:=insL_length' l0 i.toNat one (by omega)
      have hk1:=b.inv.kids_of (b.grow.has hh).1 ((b.grow.has hh).2.trans hg)
      have b1':=b.keepR (x:=y) (by omega) hk1.2.1
      obtain ⟨r',a',b',c'⟩:=fork_T (t:=r.2.keep y) (x:=r.1) (y:=y) (H:=H) (m:=m) (l0:=insL l0 i.toNat one) (l1:=l1) b1'.inv (by omega) (by rw [List.length_append];omega) (fun e=>by
        obtain ⟨t',z1,z2⟩:=c e
        exact ⟨⟨t',z1.grow (Grow.keep _ _),z2⟩,_,(r1.grow b.grow).grow (Grow.keep _ _),b1⟩)
      refine ⟨r',a',(b1'.trans b').mono (by simp only [Tr.size];omega),fun e=> ?_⟩
      rw [insL_left _ _ _ _ (by omega)]
      exact c' e
structure Rs (s:Ar) (r:Int×Int×Ar) (H:List Int) (c:Nat) (P:Tr→Prop):Prop where
  inv:Inv r.2.2 (r.1::H)
  grow:Grow s r.2.2
  cost:r.2.2.busyN≤s.busyN+c
  res:(r.2.1=0∧ ∃t',Rep r.2.2 r.1 t'∧P t')∨(r.2.1=2∧r.1=0∧s.size<s.busyN+c)
theorem Rs.mono {s:Ar} {r:Int×Int×Ar} {H:List Int} {c d:Nat} {P:Tr→Prop} (h:Rs s r H c P) (hcd:c≤d):Rs s r H d P:=
  ⟨h.inv,h.grow,by have:=h.cost;omega,h.res.imp id fun x=>⟨x.1,x.2.1,by omega⟩⟩
theorem told_rs {s:Ar} {r:Int×Tb} {H:List Int} {c:Nat} {P:Tr→Prop} (hn:Nw ⟨s,0⟩ r.2 r.1 H c) (hp:r.2.e=0→ ∃t',Rep r.2.s r.1 t'∧P t'):Rs s (Tb.told r) H c P:=by
  unfold Tb.told
  by_cases he:r.2.e=0
  · rw [if_pos he]
    exact ⟨hn.inv,hn.grow,hn.cost, .inl ⟨rfl,hp he⟩⟩
  · rw [if_neg he]
    have hb:=hn.bad he
    have hi:=hn.inv
    rw [hb] at hi
    exact ⟨hi,hn.grow,hn.cost, .inr ⟨(hn.full rfl he).1,rfl,(hn.full rfl he).2⟩⟩
theorem bInsert_R {s : Ar} {H : List Int} (hI : Inv s H) (hH : H.length ≤ 900000) {h : Int} {l : List Bool} (hb : BR s h l) (i : Int) (one : Bool) (h0 : 0 ≤ i) (hi : i ≤ l.length) :
    ∃r,bInsert s h i one=some r∧Rs s r H (l.length+3) fun t=>BitsR t (insL l i.toNat one):=by
  have hs:=hb.short
  unfold bInsert
  rw [hb.len hI,if_neg (by omega)]
  have hlen:=insL_length' l i.toNat one (by omega)
  obtain ⟨t,hr,hR⟩:=hb.ex
  rcases hR with ⟨rfl,rfl⟩|⟨hR,hsz⟩|hR
  · obtain rfl:=hr.zero
    obtain ⟨n1,s1⟩:=leaf_T (t:=⟨s,0⟩) (H:=H) (m:=1) (l:=[one]) hI (by omega) (by simp) (by simp) (by simp)
    have e1:Tb.insert rounds ⟨s,0⟩ 0 i one=some (Tb.leaf ⟨s,0⟩ [one]):=by
      rw [show rounds=9999+1 from rfl]
      unfold Tb.insert
      rw [if_neg (by rw [bIs_zero];decide)]
      rfl
    rw [e1]
    refine ⟨_,rfl,(told_rs n1 fun e=> ?_).mono (by omega)⟩
    obtain ⟨t',a,b,c⟩:=s1 e
    refine ⟨t',a, .inr (.inl ⟨?_,c⟩)⟩
    have:i.toNat=0:=by simp at hi;omega
    rw [this];exact b
  · cases hR with
    | leaf h1 h2 h3=>
      obtain ⟨r,a,b,c⟩:=ins_leaf hI (by omega) (m:=1) (by omega) hr h1 h2 h3 (hb.live hr.ne) 9999 i one h0 hi
      rw [show rounds=9999+1 from rfl,a]
      refine ⟨_,rfl,(told_rs b fun e=> ?_).mono (by omega)⟩
      obtain ⟨t',x,y,z,z'⟩:=c e
      refine ⟨t',x, .inr ?_⟩
      by_cases hf:l.length<64
      · exact .inl ⟨y,z hf⟩
      · exact .inr ((z' (by omega)).mono (by omega))
    | fork h1 h2=>
      have:=h1.nd;simp [Tr.size] at hsz;have:=h2.nd;omega
  · obtain ⟨r,a,b,c⟩:=insert_T (m:=16) (by omega) hR (k:=rounds) one hI hr (hb.live (hr.ne_of hR)) (by omega) (by unfold rounds;omega) (by omega) h0 hi
    rw [a]
    have:=hR.size
    refine ⟨_,rfl,(told_rs b fun e=> ?_).mono (by omega)⟩
    obtain ⟨t',x,y⟩:=c e
    exact ⟨t',x, .inr (.inr y)⟩
end
section
open Go.RowKit
def insA {α:Type} (l:List α) (i:Nat) (x:α):List α:=l.take i++x::l.drop i
theorem insA_length {α:Type} (l:List α) (i:Nat) (x:α) (h:i≤l.length):(insA l i x).length=l.length+1:=by unfold insA;simp;omega
theorem insA_map {α:Type} (f:α→Bool) (l:List α) (i:Nat) (x:α):(insA l i x).map f=insL (l.map f) i (f x):=by unfold insA insL;simp [List.map_take,List.map_drop]
theorem insA_filter_in {α:Type} (p:α→Bool) (l:List α) (i:Nat) (x:α) (hp:p x=true):(insA l i x).filter p=insA (l.filter p) ((l.take i).filter p).length x:=by
  have hs:(l.take i).filter p++(l.drop i).filter p=l.filter p:=by rw [←List.filter_append,List.take_append_drop]
  unfold insA
  rw [List.filter_append,List.filter_cons_of_pos hp,←hs,List.take_left',List.drop_left']
  · rfl
  · rfl
theorem insA_filter_out {α:Type} (p:α→Bool) (l:List α) (i:Nat) (x:α) (hp:p x=false):(insA l i x).filter p=l.filter p:=by
  unfold insA
  rw [List.filter_append,List.filter_cons_of_neg (by rw [hp];decide),←List.filter_append,List.take_append_drop]
theorem filter_take {α:Type} (p:α→Bool) (l:List α) (i:Nat):(l.filter p).take ((l.take i).filter p).length=(l.take i).filter p:=by
  have hs:(l.take i).filter p++(l.drop i).filter p=l.filter p:=by rw [←List.filter_append,List.take_append_drop]
  rw [←hs,List.take_left'];rfl
theorem filter_at {α:Type} (p:α→Bool) (l:List α) (i:Nat) (x:α) (hx:l[i]? =some x) (hp:p x=true):(l.filter p)[((l.take i).filter p).length]? =some x:=by
  have hs:(l.take i).filter p++(l.drop i).filter p=l.filter p:=by rw [←List.filter_append,List.take_append_drop]
  obtain ⟨h1,h2⟩:=List.getElem?_eq_some_iff.1 hx
  rw [←hs,List.getElem?_append_right (Nat.le_refl _),Nat.sub_self,List.drop_eq_getElem_cons h1,h2,List.filter_cons_of_pos hp];rfl
def bitD (d:Nat) (x:Int):Bool:=symBit x (8 - (d:Int))
theorem bitD_eq {d:Nat} (hd:d≤8) {x:Int} (h0:0≤x) (h1:x<257):bitD d x=x.toNat.testBit d:=by
  unfold bitD symBit
  rw [show ((8:Int) - (8 - (d:Int))).toNat=d by omega]
  simp [h0,h1];omega
def F (d:Nat) (b:Bool) (l:List Int):List Int:=l.filter fun x=>bitD d x==b
inductive WaveT:Nat→Tr→List Int→Prop where
  | none {l:List Int}:WaveT 0 .nil l
  | nil {d:Nat}:WaveT (d+1) .nil []
  | node {d:Nat} {tb t0 t1:Tr} {l:List Int}:l≠[]→BitsR tb (l.map (bitD d))→WaveT d t0 (F d false l)→WaveT d t1 (F d true l)→WaveT (d+1) (.nd 3 0 0 tb t0 t1 .nil) l
theorem WaveT.empty: ∀d,WaveT d .nil []
  | 0=> .none
  | _+1=> .nil
def Sy (l:List Int):Prop:= ∀x∈l,0≤x∧x<257
theorem Sy.f {l:List Int} (h:Sy l) (d:Nat) (b:Bool):Sy (F d b l):=fun x hx=>h x (List.mem_filter.1 hx).1
theorem F_split (d:Nat) (l:List Int):(F d false l).length+(F d true l).length=l.length:=by
  unfold F
  induction l with
  | nil=>rfl
  | cons x l ih=>
    cases hb:bitD d x<;>simp only [List.filter_cons,hb,List.length_cons,beq_self_eq_true,if_true]<;>simp<;>simp at ih<;>omega
theorem F_le (d:Nat) (b:Bool) (l:List Int):(F d b l).length≤l.length:=List.length_filter_le _ _
theorem count_F (d:Nat) (b:Bool) (l:List Int):(l.map (bitD d)).count b=(F d b l).length:=by
  unfold F
  rw [List.count,List.countP_map,List.countP_eq_length_filter];rfl
structure WR (s:Ar) (d:Nat) (h:Int) (l:List Int):Prop where
  ex: ∃t,Rep s h t∧WaveT d t l
  live:h≠0→s.cnt h≠0
  short:l.length≤9000
  sy:Sy l
theorem WR.kids {s:Ar} {H:List Int} (hI:Inv s H) {d:Nat} {h:Int} {l:List Int} (hw:WR s (d+1) h l):BR s (s.get h).k0 (l.map (bitD d))∧ ∀b,WR s d ((s.get h).kid b) (F d b l):=by
  obtain ⟨t,hr,ht⟩:=hw.ex
  cases ht with
  | nil=>
    obtain rfl:=hr.zero
    rw [get_zero]
    refine ⟨⟨⟨.nil, .nil, .inl ⟨rfl,rfl⟩⟩,fun h=>absurd rfl h,by simp⟩,fun b=>⟨⟨.nil,?_,WaveT.empty d⟩,fun h=> ?_,by simp [F],fun x hx=>by simp [F] at hx⟩⟩
    · cases b<;>exact .nil
    · cases b<;>exact absurd rfl h
  | @node _ tb t0 t1 _ hne hB h0 h1=>
    obtain ⟨k0,k1,k2,k3,hh,hg,r0,r1,r2, -⟩:=hr.get
    obtain ⟨c0,c1,c2, -⟩:=hI.kids_of hh hg
    rw [hg]
    have hs:=hw.short
    refine ⟨⟨⟨tb,r0,hB⟩,c0,by simp;omega⟩,fun b=> ?_⟩
    have:=F_le d b l
    cases b with
    | false=>exact ⟨⟨t0,r1,h0⟩,c1,by omega,hw.sy.f _ _⟩
    | true=>exact ⟨⟨t1,r2,h1⟩,c2,by omega,hw.sy.f _ _⟩
theorem WR.len {s:Ar} {H:List Int} (hI:Inv s H) {d:Nat} {h:Int} {l:List Int} (hw:WR s (d+1) h l):wLen s h=l.length:=by
  unfold wLen
  rw [(hw.kids hI).1.len hI,List.length_map]
theorem wt_count_both (l:List Bool):l.count true+l.count false=l.length:=by
  induction l with
  | nil=>rfl
  | cons b l ih=>cases b<;>simp<;>omega
theorem pow2_le: ∀n,n≤8→(2:Int) ^ n≤512:=by decide
theorem alike_T {s:Ar} {H:List Int} (hI:Inv s H) {h:Int} {m:List Bool} (hb:BR s h m) (i:Int) (b:Bool) (h0:0≤i) (hi:i≤m.length):wAlike s h i b=some (((m.take i.toNat).count b:Nat):Int):=by
  unfold wAlike
  have hl:=hb.len hI
  have hs:=hb.short
  have hc:imin (imax i 0) (bLen s h)=i:=by
    unfold imin imax;rw [hl,if_neg (show¬i<0 by omega)];split<;>omega
  rw [hc,hb.rank hI i h0 hi,Option.map_some]
  have h2:(m.take i.toNat).count true+(m.take i.toNat).count false=i.toNat:=by
    rw [wt_count_both,List.length_take];omega
  cases b with
  | true=>rfl
  | false=>
    rw [if_neg (by decide),w64 (by omega) (by omega)]
    congr 1;omega
theorem alike_F {s:Ar} {H:List Int} (hI:Inv s H) {d:Nat} {h:Int} {l:List Int} (hb:BR s h (l.map (bitD d))) (i:Int) (b:Bool) (h0:0≤i) (hi:i≤l.length):wAlike s h i b=some (((F d b (l.take i.toNat)).length:Nat):Int):=by
  rw [alike_T hI hb i b h0 (by simpa using hi),←List.map_take,count_F]
theorem mod_bit (x d:Nat):x % 2 ^ (d+1)=x % 2 ^ d+2 ^ d*(x.testBit d).toNat:=by
  rw [Nat.testBit_eq_decide_div_mod_eq,Nat.pow_succ,Nat.mod_mul]
  rcases Nat.mod_two_eq_zero_or_one (x/2 ^ d) with h|h<;>simp [h]
theorem wGetL_T {s : Ar} {H : List Int} (hI : Inv s H) : ∀ {d : Nat} {h : Int} {l : List Int} {i x : Int}, WR s d h l → d ≤ 9 → 0 ≤ i → ∀ y, l[i.toNat]? = some y → 0 ≤ x → x < 2 ^ (9 - d) →
    wGetL d s h i x=some (x*2 ^ d+((y.toNat % 2 ^ d:Nat):Int))
  | 0,h,l,i,x,hw,hd,h0,y,hy,hx,hx'=>by unfold wGetL;simp [Nat.mod_one]
  | d+1,h,l,i,x,hw,hd,h0,y,hy,hx,hx'=>by
    obtain ⟨hb,hk⟩:=hw.kids hI
    obtain ⟨hil,hyl⟩:=List.getElem?_eq_some_iff.1 hy
    obtain ⟨y0,y1⟩:=hw.sy y (hyl▸List.getElem_mem hil)
    have h2:(2:Int) ^ (9 - d)=2*2 ^ (9 - (d+1)):=by rw [show 9 - d=(9 - (d+1))+1 by omega,Int.pow_succ];omega
    have h3:=pow2_le (9 - (d+1)) (by omega)
    unfold wGetL
    rw [hb.get hI,if_neg (by rw [List.length_map];omega),Option.bind_some]
    have hg:(l.map (bitD d)).getD i.toNat false=bitD d y:=by rw [List.getD_eq_getElem?_getD,List.getElem?_map,hy];rfl
    dsimp only
    rw [hg,alike_F hI hb i _ h0 (by omega),Option.bind_some]
    have hat:(F d (bitD d y) l)[(F d (bitD d y) (l.take i.toNat)).length]? =some y:=filter_at _ l i.toNat y hy (by simp)
    have hbt:=bitD_eq (d:=d) (by omega) y0 y1
    have hm:=mod_bit y.toNat d
    have hp:(2:Int) ^ (d+1)=2*2 ^ d:=by rw [Int.pow_succ];omega
    cases hbb:bitD d y with
    | false=>
      rw [hbb] at hat
      rw [if_neg (by decide),w64 (x:=x*2) (by omega) (by omega)]
      rw [wGetL_T hI (x:=x*2) (hk false) (by omega) (by omega) y (by rw [Int.toNat_natCast];exact hat) (by omega) (by omega)]
      rw [hbb] at hbt
      rw [←hbt] at hm
      simp only [Bool.toNat_false,Nat.mul_zero,Nat.add_zero] at hm
      rw [hm,hp,Int.mul_assoc]
    | true=>
      rw [hbb] at hat
      rw [if_pos rfl,w64 (x:=x*2) (by omega) (by omega),w64 (x:=x*2+1) (by omega) (by omega)]
      rw [wGetL_T hI (x:=x*2+1) (hk true) (by omega) (by omega) y (by rw [Int.toNat_natCast];exact hat) (by omega) (by omega)]
      rw [hbb] at hbt
      rw [←hbt] at hm
      simp only [Bool.toNat_true,Nat.mul_one] at hm
      have h4:(((2:Nat) ^ d:Nat):Int)=(2:Int) ^ d:=by rw [Int.natCast_pow];rfl
      rw [hm,hp,Int.add_mul,Int.mul_assoc,Int.natCast_add,h4]
      congr 1
      generalize x*(2*2 ^ d)=A
      generalize (2:Int) ^ d=B
      omega
theorem WR.get {s:Ar} {H:List Int} (hI:Inv s H) {h:Int} {l:List Int} (hw:WR s 9 h l) (i:Int):wGet s h i=if i<0∨(l.length:Int)≤i then some (0,false) else some (l.getD i.toNat 0,true):=by
  unfold wGet
  rw [hw.len hI]
  by_cases hi:i<0∨(l.length:Int)≤i
  · rw [if_pos hi,if_pos hi]
  · rw [if_neg hi,if_neg hi]
    obtain ⟨y,hy⟩: ∃y,l[i.toNat]? =some y:=⟨_,List.getElem?_eq_getElem (by omega)⟩
    obtain ⟨hil,hyl⟩:=List.getElem?_eq_some_iff.1 hy
    obtain ⟨y0,y1⟩:=hw.sy y (hyl▸List.getElem_mem hil)
    rw [wGetL_T hI hw (by omega) (by omega) y hy (by omega) (by decide),List.getD_eq_getElem?_getD,hy]
    simp only [Option.map_some,Option.getD_some]
    congr 2
    have:y.toNat % 2 ^ 9=y.toNat:=Nat.mod_eq_of_lt (by omega)
    rw [this];omega
def mEq (d:Nat) (x y:Int):Bool:=y.toNat % 2 ^ d==x.toNat % 2 ^ d
def mLt (d:Nat) (x y:Int):Bool:=decide (y.toNat % 2 ^ d<x.toNat % 2 ^ d)
theorem mEq_succ {d:Nat} (hd:d≤8) {x y:Int} (hx:0≤x∧x<257) (hy:0≤y∧y<257):mEq (d+1) x y=(bitD d y==bitD d x&&mEq d x y):=by
  unfold mEq
  rw [mod_bit x.toNat d,mod_bit y.toNat d,bitD_eq hd hx.1 hx.2,bitD_eq hd hy.1 hy.2]
  have h1:y.toNat % 2 ^ d<2 ^ d:=Nat.mod_lt _ (Nat.two_pow_pos d)
  have h2:x.toNat % 2 ^ d<2 ^ d:=Nat.mod_lt _ (Nat.two_pow_pos d)
  generalize y.toNat % 2 ^ d=a at*
  generalize x.toNat % 2 ^ d=b at*
  generalize 2 ^ d=c at*
  cases y.toNat.testBit d<;>cases x.toNat.testBit d<;>(rw [Bool.eq_iff_iff];simp only [Bool.toNat_false,Bool.toNat_true,Nat.mul_zero,Nat.mul_one,Nat.add_zero,beq_iff_eq,Bool.and_eq_true,reduceCtorEq,eq_self,false_and,true_and,iff_false];try omega)
theorem mLt_succ {d:Nat} (hd:d≤8) {x y:Int} (hx:0≤x∧x<257) (hy:0≤y∧y<257):mLt (d+1) x y=((bitD d x&& !bitD d y)||(bitD d y==bitD d x&&mLt d x y)):=by
  unfold mLt
  rw [mod_bit x.toNat d,mod_bit y.toNat d,bitD_eq hd hx.1 hx.2,bitD_eq hd hy.1 hy.2]
  have h1:y.toNat % 2 ^ d<2 ^ d:=Nat.mod_lt _ (Nat.two_pow_pos d)
  have h2:x.toNat % 2 ^ d<2 ^ d:=Nat.mod_lt _ (Nat.two_pow_pos d)
  generalize y.toNat % 2 ^ d=a at*
  generalize x.toNat % 2 ^ d=b at*
  generalize 2 ^ d=c at*
  cases y.toNat.testBit d<;>cases x.toNat.testBit d<;>simp<;>omega
theorem wRankL_T {s : Ar} {H : List Int} (hI : Inv s H) : ∀ {d : Nat} {h : Int} {l : List Int} {x i : Int}, WR s d h l → d ≤ 9 → 0 ≤ i → i ≤ l.length → 0 ≤ x ∧ x < 257 →
    wRankL d s h x i=some (((l.take i.toNat).countP (mEq d x):Nat):Int)
  | 0,h,l,x,i,hw,hd,h0,hi,hx=>by
    unfold wRankL
    have:(l.take i.toNat).countP (mEq 0 x)=i.toNat:=by
      rw [List.countP_eq_length.2 (fun y _=>by simp [mEq,Nat.mod_one]),List.length_take];omega
    rw [this];congr 1;omega
  | d+1,h,l,x,i,hw,hd,h0,hi,hx=>by
    obtain ⟨hb,hk⟩:=hw.kids hI
    have hc:(l.take i.toNat).countP (mEq (d+1) x)=(F d (bitD d x) (l.take i.toNat)).countP (mEq d x):=by
      unfold F
      rw [List.countP_filter]
      refine List.countP_congr fun y hy=> ?_
      rw [mEq_succ (by omega) hx (hw.sy y (List.mem_of_mem_take hy)),Bool.and_comm]
    have hbe:symBit x (8 - (d:Int))=bitD d x:=rfl
    unfold wRankL
    rw [hbe,alike_F hI hb i _ h0 hi,Option.bind_some,hc]
    by_cases hj:(0:Int)<(((F d (bitD d x) (l.take i.toNat)).length:Nat):Int)
    · rw [if_pos hj]
      have hle:(F d (bitD d x) (l.take i.toNat)).length≤(F d (bitD d x) l).length:=by
        have:=filter_take (fun y=>bitD d y==bitD d x) l i.toNat
        have h2:=congrArg List.length this
        rw [List.length_take] at h2
        unfold F;omega
      rw [wRankL_T hI (hk _) (by omega) (by omega) (by omega) hx,Int.toNat_natCast]
      unfold F
      rw [filter_take]
    · rw [if_neg hj]
      have:F d (bitD d x) (l.take i.toNat)=[]:=List.length_eq_zero_iff.1 (by omega)
      rw [this];rfl
theorem mEq9 {x y:Int} (hx:0≤x∧x<257) (hy:0≤y∧y<257):mEq 9 x y=(y==x):=by
  unfold mEq
  rw [Nat.mod_eq_of_lt (show x.toNat<2 ^ 9 by omega),Nat.mod_eq_of_lt (show y.toNat<2 ^ 9 by omega)]
  rw [Bool.eq_iff_iff];simp;omega
theorem mLt9 {x y:Int} (hx:0≤x∧x<257) (hy:0≤y∧y<257):mLt 9 x y=decide (y<x):=by
  unfold mLt
  rw [Nat.mod_eq_of_lt (show x.toNat<2 ^ 9 by omega),Nat.mod_eq_of_lt (show y.toNat<2 ^ 9 by omega)]
  rw [Bool.eq_iff_iff];simp;omega
theorem WR.rank {s:Ar} {H:List Int} (hI:Inv s H) {h:Int} {l:List Int} (hw:WR s 9 h l) {x:Int} (hx:0≤x∧x<257) (i:Int) (h0:0≤i) (hi:i≤l.length):wRank s h x i=some (((l.take i.toNat).count x:Nat):Int):=by
  unfold wRank
  rw [if_pos (by simp [wIs,hx.1,hx.2]),wRankL_T hI hw (by omega) h0 hi hx]
  congr 2
  exact List.countP_congr fun y hy=>by rw [mEq9 hx (hw.sy y (List.mem_of_mem_take hy))]
theorem wBeforeL_T {s : Ar} {H : List Int} (hI : Inv s H) : ∀ {d : Nat} {h : Int} {l : List Int} {x a : Int}, WR s d h l → d ≤ 9 → 0 ≤ x ∧ x < 257 → 0 ≤ a → a + l.length ≤ 100000 →
    wBeforeL d s h x a=some (a+((l.countP (mLt d x):Nat):Int))
  | 0,h,l,x,a,hw,hd,hx,ha,ha'=>by
    unfold wBeforeL
    have:l.countP (mLt 0 x)=0:=List.countP_eq_zero.2 fun y _=>by simp [mLt,Nat.mod_one]
    rw [this];simp
  | d+1,h,l,x,a,hw,hd,hx,ha,ha'=>by
    obtain ⟨hb,hk⟩:=hw.kids hI
    have hbe:symBit x (8 - (d:Int))=bitD d x:=rfl
    have hsp:=F_split d l
    unfold wBeforeL
    rw [hbe]
    cases hbx:bitD d x with
    | true=>
      rw [if_pos rfl,hb.len hI,List.length_map,alike_F hI hb _ false (by omega) (by omega),Option.bind_some,Int.toNat_natCast,List.take_length,w64 (by omega) (by omega),wBeforeL_T hI (hk true) (by omega) hx (by omega) (by omega)]
      have:l.countP (mLt (d+1) x)=(F d false l).length+(F d true l).countP (mLt d x):=by
        unfold F
        rw [List.countP_filter,←List.countP_eq_length_filter]
        have hsy:=hw.sy
        clear hb hk hsp hw ha'
        induction l with
        | nil=>rfl
        | cons y l ih=>
          have hy:=hsy y (by simp)
          rw [List.countP_cons,List.countP_cons,List.countP_cons,ih (fun z hz=>hsy z (by simp [hz])),mLt_succ (by omega) hx hy,hbx]
          cases bitD d y<;>simp<;>omega
      rw [this];congr 1;push_cast;omega
    | false=>
      rw [if_neg (by decide),wBeforeL_T hI (hk false) (by omega) hx ha (by omega)]
      congr 3
      unfold F
      rw [List.countP_filter]
      refine List.countP_congr fun y hy=> ?_
      rw [mLt_succ (by omega) hx (hw.sy y hy),hbx]
      cases bitD d y<;>simp
theorem WR.before {s:Ar} {H:List Int} (hI:Inv s H) {h:Int} {l:List Int} (hw:WR s 9 h l) {x:Int} (hx:0≤x∧x<257):wBefore s h x=some ((l.countP (fun y=>decide (y<x)):Nat):Int):=by
  have hs:=hw.short
  unfold wBefore
  rw [if_neg (by omega),if_neg (by omega),wBeforeL_T hI hw (by omega) hx (by omega) (by omega),Int.zero_add]
  congr 2
  exact List.countP_congr fun y hy=>by rw [mLt9 hx (hw.sy y hy)]
end
section
open Go.RowKit
variable {ts : List (List UInt8)}
def below (ts:List (List UInt8)) (r:Nat×Nat) (L:List (Nat×Nat)):Nat:=L.countP fun x=>refLess ts x r
theorem srt_filter (r:Nat×Nat): ∀{L:List (Nat×Nat)},Srt ts L→L.filter (fun x=>refLess ts x r)=L.take (below ts r L)
  | [],_=>rfl
  | x::L,h=>by
    obtain ⟨h1,h2⟩:=List.pairwise_cons.1 h
    unfold below
    rw [List.countP_cons]
    by_cases hx:refLess ts x r=true
    · rw [if_pos hx,List.filter_cons_of_pos (by exact hx),List.take_succ_cons,srt_filter r h2];rfl
    · have h0:L.countP (fun x=>refLess ts x r)=0:=List.countP_eq_zero.2 fun y hy hyr=>hx (rl_trans (h1 y hy) hyr)
      rw [if_neg hx,List.filter_cons_of_neg (by exact hx),h0]
      exact List.filter_eq_nil_iff.2 fun y hy hyr=>hx (rl_trans (h1 y hy) hyr)
theorem srt_idx {r:Nat×Nat}: ∀{L:List (Nat×Nat)} {i:Nat},Srt ts L→L[i]? =some r→below ts r L=i
  | [],i,_,hi=>by simp at hi
  | x::L,0,h,hi=>by
    obtain ⟨h1,h2⟩:=List.pairwise_cons.1 h
    simp at hi
    subst hi
    unfold below
    rw [List.countP_cons,if_neg (by rw [rl_irr];decide)]
    exact List.countP_eq_zero.2 fun y hy=>by rw [rl_asymm (h1 y hy)];decide
  | x::L,i+1,h,hi=>by
    obtain ⟨h1,h2⟩:=List.pairwise_cons.1 h
    simp at hi
    unfold below
    rw [List.countP_cons,if_pos (h1 r (List.mem_of_getElem? hi))]
    have:=srt_idx h2 hi
    unfold below at this
    rw [this]
theorem srt_at {r:Nat×Nat} {L:List (Nat×Nat)} (h:Srt ts L) (hr:r∈L):L[below ts r L]? =some r:=by
  obtain ⟨i,hi⟩:=List.getElem?_of_mem hr
  rw [srt_idx h hi];exact hi
theorem below_le (r:Nat×Nat) (L:List (Nat×Nat)):below ts r L≤L.length:=List.countP_le_length
theorem bwt_take_count {L:List (Nat×Nat)} (h:Srt ts L) (p:Nat×Nat→Bool) (r:Nat×Nat):(L.take (below ts r L)).countP p=L.countP (fun x=>p x&&refLess ts x r):=by
  rw [←srt_filter r h,List.countP_filter]
theorem Srt.filter {L:List (Nat×Nat)} (h:Srt ts L) (p:Nat×Nat→Bool):Srt ts (L.filter p):=List.Pairwise.filter p h
theorem srt_while (r:Nat×Nat): ∀{L:List (Nat×Nat)},Srt ts L→refAt ts L r=below ts r L
  | [],_=>rfl
  | x::L,h=>by
    obtain ⟨h1,h2⟩:=List.pairwise_cons.1 h
    have:=srt_while r h2
    unfold refAt below at this⊢
    rw [List.takeWhile_cons,List.countP_cons]
    by_cases hx:refLess ts x r=true
    · rw [if_pos hx,if_pos hx,List.length_cons,this]
    · rw [if_neg hx,if_neg hx,List.countP_eq_zero.2 fun y hy hyr=>hx (rl_trans (h1 y hy) hyr)];rfl
theorem filter_or_perm {α:Type} (p q:α→Bool): ∀(l:List α),(∀x∈l,¬(p x=true∧q x=true))→(l.filter fun x=>p x||q x).Perm (l.filter q++l.filter p)
  | [],_=>List.Perm.refl _
  | x::l,h=>by
    have ih:=filter_or_perm p q l fun y hy=>h y (by simp [hy])
    have h1:=h x (by simp)
    simp only [List.filter_cons]
    cases hp:p x<;>cases hq:q x
    · simpa using ih
    · simpa using ih
    · simp only [Bool.true_or,if_true,Bool.false_eq_true,if_false]
      exact (ih.cons x).trans List.perm_middle.symm
    · exact absurd ⟨hp,hq⟩ h1
theorem srt_insert {L : List (Nat × Nat)} (h : Srt ts L) (hin : ∀ x ∈ L, RowIn ts x) {r : Nat × Nat} (hr : r ∈ L) {p q : Nat × Nat → Bool} (hp : p r = false) (hq : ∀ x ∈ L, q x = (p x || x == r)) :
    L.filter q=insA (L.filter p) (below ts r (L.filter p)) r:=by
  have hpf:=h.filter p
  have hnot:r∉L.filter p:=fun hm=>by rw [(List.mem_filter.1 hm).2] at hp;cases hp
  have hn:L.Nodup:=h.imp fun {a b} hab e=>by rw [e,rl_irr] at hab;cases hab
  have he:insA (L.filter p) (below ts r (L.filter p)) r=refIns ts (L.filter p) r:=by
    unfold refIns insA;rw [srt_while r hpf]
  rw [he]
  refine srt_unique (h.filter q) (ins_sorted (hin r hr) (fun x hx=>hin x (List.mem_filter.1 hx).1) hnot hpf) ?_
  refine List.Perm.trans ?_ (ins_perm ts (L.filter p) r).symm
  have h1:L.filter q=L.filter fun x=>p x||x==r:=List.filter_congr hq
  have h2:L.filter (fun x=>x==r)=[r]:=by
    rw [List.filter_beq,hn.count,if_pos hr];rfl
  rw [h1]
  have:=filter_or_perm p (fun x=>x==r) L fun x _ hx=>by
    have e:x=r:=by simpa using hx.2
    rw [e,hp] at hx;cases hx.1
  rw [h2] at this
  exact this
theorem count_or {α:Type} (p q:α→Bool) (l:List α) (h: ∀x∈l,¬(p x=true∧q x=true)):l.countP (fun x=>p x||q x)=l.countP p+l.countP q:=by
  induction l with
  | nil=>rfl
  | cons x l ih=>
    have h1:=h x (by simp)
    rw [List.countP_cons,List.countP_cons,List.countP_cons,ih fun y hy=>h y (by simp [hy])]
    cases hp:p x<;>cases hq:q x<;>simp_all<;>omega
theorem sym_succ {d a:Nat} {t:List UInt8} (ht:ts[d]? =some t) {x:UInt8} (hx:t[a]? =some x):symOf ts (d,a+1)=(x.toNat:Int)+1:=by
  unfold symOf
  rw [if_neg (by simp),getD_at ht]
  simp [List.getD,hx]
theorem sym_zero (d:Nat):symOf ts (d,0)=0:=rfl
theorem sym_bound (r:Nat×Nat):0≤symOf ts r∧symOf ts r<257:=by
  unfold symOf
  split
  · omega
  · have:=((ts.getD r.1 []).getD (r.2 - 1) 0).toNat_lt
    omega
theorem less_step {e b d a : Nat} {te td : List UInt8} (hte : ts[e]? = some te) (htd : ts[d]? = some td) (hb : b < te.length) (ha : a < td.length) :
    refLess ts (e,b) (d,a)=(decide (symOf ts (e,b+1)<symOf ts (d,a+1))||(symOf ts (e,b+1)==symOf ts (d,a+1)&&refLess ts (e,b+1) (d,a+1))):=by
  obtain ⟨x,hx⟩:=at_some hb
  obtain ⟨y,hy⟩:=at_some ha
  rw [sym_succ hte hx,sym_succ htd hy]
  unfold refLess
  dsimp only
  rw [getD_at hte,getD_at htd,drop_at hx,drop_at hy]
  have hxy:(x=y)↔(x.toNat=y.toNat):=UInt8.toNat_inj.symm
  show (if x=y then _ else _)=_
  by_cases e:x=y
  · subst e
    rw [if_pos rfl];simp
  · rw [if_neg e]
    have: ¬x.toNat=y.toNat:=fun h=>e (hxy.2 h)
    have h2:((x.toNat:Int)+1==(y.toNat:Int)+1)=false:=by rw [beq_eq_false_iff_ne];omega
    rw [h2,Bool.false_and,Bool.or_false]
    exact decide_eq_decide.2 (by omega)
theorem less_end {e d a:Nat} {te td:List UInt8} (hte:ts[e]? =some te) (htd:ts[d]? =some td) (ha:a<td.length):refLess ts (e,te.length) (d,a)=true:=by
  obtain ⟨y,hy⟩:=at_some ha
  unfold refLess
  dsimp only
  rw [getD_at hte,getD_at htd,drop_at hy,List.drop_length];rfl
def Q (ts:List (List UInt8)) (e a:Nat) (x:Nat×Nat):Bool:=decide (symOf ts x<symOf ts (e,a+1))||(symOf ts x==symOf ts (e,a+1)&&refLess ts x (e,a+1))
theorem doc_part {d e a : Nat} {td te : List UInt8} (htd : ts[d]? = some td) (hte : ts[e]? = some te) (ha : a < te.length) : ∀ j k, k + j = td.length →
    ((List.range' k (j+1)).map fun b=>(d,b)).countP (fun x=>refLess ts x (e,a))=1+((List.range' (k+1) j).map fun b=>(d,b)).countP (Q ts e a)
  | 0,k,hk=>by
    obtain rfl:k=td.length:=by omega
    show ([(d,td.length)]:List (Nat×Nat)).countP _=_
    rw [List.countP_cons,if_pos (less_end htd hte ha)]
    try rfl
  | j+1,k,hk=>by
    rw [List.range'_succ,List.map_cons,List.countP_cons,doc_part htd hte ha j (k+1) (by omega),List.range'_succ,List.map_cons,List.countP_cons,less_step htd hte (by omega) ha]
    unfold Q;omega
theorem rowsOf_range (ts:List (List UInt8)) (d:Nat):rowsOf ts d=(List.range' 0 ((ts.getD d []).length+1)).map fun b=>(d,b):=by
  unfold rowsOf;rw [List.range_eq_range']
def docs (ts:List (List UInt8)) (n:Nat):List (Nat×Nat):=(List.range n).flatMap (rowsOf ts)
theorem docs_succ (n:Nat):docs ts (n+1)=docs ts n++rowsOf ts n:=by
  unfold docs;rw [List.range_succ,List.flatMap_append];simp
theorem upto_docs (n:Nat):upto ts n 0=docs ts n:=by unfold upto docs;simp
theorem lf_docs {e a:Nat} {te:List UInt8} (hte:ts[e]? =some te) (ha:a<te.length): ∀n,n≤ts.length→(docs ts n).countP (fun x=>refLess ts x (e,a))=(docs ts n).countP (Q ts e a)
  | 0,_=>rfl
  | n+1,hn=>by
    obtain ⟨td,htd⟩:=at_some (show n<ts.length by omega)
    obtain ⟨y,hy⟩:=at_some ha
    rw [docs_succ,List.countP_append,List.countP_append,lf_docs hte ha n (by omega),rowsOf_range,getD_at htd,doc_part htd hte ha td.length 0 (by omega),List.range'_succ,List.map_cons,List.countP_cons,if_pos]
    · omega
    · unfold Q
      rw [sym_zero,sym_succ hte hy]
      have:decide ((0:Int)<(y.toNat:Int)+1)=true:=decide_eq_true (by omega)
      rw [this];rfl
theorem Q_split (e a:Nat) (L:List (Nat×Nat)):L.countP (Q ts e a)=(L.map (symOf ts)).countP (fun y=>decide (y<symOf ts (e,a+1)))+L.countP (fun x=>symOf ts x==symOf ts (e,a+1)&&refLess ts x (e,a+1)):=by
  unfold Q
  rw [count_or,List.countP_map]
  · rfl
  · rintro x _ ⟨h1,h2⟩
    simp only [decide_eq_true_eq,Bool.and_eq_true,beq_iff_eq] at h1 h2
    omega
theorem bwt_rank_at {L:List (Nat×Nat)} (h:Srt ts L) (r:Nat×Nat) (c:Int):((L.map (symOf ts)).take (below ts r L)).count c=L.countP (fun x=>symOf ts x==c&&refLess ts x r):=by
  rw [←List.map_take,List.count,List.countP_map]
  exact bwt_take_count h (fun x=>symOf ts x==c) r
def all (ts:List (List UInt8)):List (Nat×Nat):=refFold ts (upto ts ts.length 0)
theorem all_srt (ts:List (List UInt8)):Srt ts (all ts):=all_sorted ts
theorem all_docs (ts:List (List UInt8)):(all ts).Perm (docs ts ts.length):=by rw [←upto_docs];exact all_perm ts
theorem docs_mem {d a:Nat} {t:List UInt8} (ht:ts[d]? =some t) (ha:a≤t.length): ∀n,d<n→(d,a)∈docs ts n
  | 0,h=>by omega
  | n+1,h=>by
    rw [docs_succ]
    by_cases e:d=n
    · subst e
      refine List.mem_append.2 (.inr ?_)
      unfold rowsOf
      rw [getD_at ht]
      exact List.mem_map.2 ⟨a,List.mem_range.2 (by omega),rfl⟩
    · exact List.mem_append.2 (.inl (docs_mem ht ha n (by omega)))
theorem all_mem {d a:Nat} {t:List UInt8} (ht:ts[d]? =some t) (ha:a≤t.length):(d,a)∈all ts:=
  (all_docs ts).mem_iff.2 (docs_mem ht ha _ (List.getElem?_eq_some_iff.1 ht).1)
theorem lf_all {e a : Nat} {te : List UInt8} (hte : ts[e]? = some te) (ha : a < te.length) :
    below ts (e,a) (all ts)=((all ts).map (symOf ts)).countP (fun y=>decide (y<symOf ts (e,a+1)))+(((all ts).map (symOf ts)).take (below ts (e,a+1) (all ts))).count (symOf ts (e,a+1)):=by
  rw [bwt_rank_at (all_srt ts),←Q_split]
  unfold below
  rw [(all_docs ts).countP_eq,(all_docs ts).countP_eq,lf_docs hte ha _ (Nat.le_refl _)]
theorem end_docs {d:Nat} {td:List UInt8} (htd:ts[d]? =some td): ∀n,n≤ts.length→(docs ts n).countP (fun x=>refLess ts x (d,td.length))=min n d
  | 0,_=>by simp [docs]
  | n+1,hn=>by
    obtain ⟨tn,htn⟩:=at_some (show n<ts.length by omega)
    rw [docs_succ,List.countP_append,end_docs htd n (by omega)]
    have hrow: ∀j k,k+j=tn.length→((List.range' k (j+1)).map fun b=>(n,b)).countP (fun x=>refLess ts x (d,td.length))=if n<d then 1 else 0:=by
      intro j
      induction j with
      | zero=>
        intro k hk
        obtain rfl:k=tn.length:=by omega
        show ([(n,tn.length)]:List (Nat×Nat)).countP _=_
        rw [List.countP_cons]
        have:refLess ts (n,tn.length) (d,td.length)=decide (n<d):=by
          unfold refLess
          dsimp only
          rw [getD_at htn,getD_at htd,List.drop_length,List.drop_length];rfl
        rw [this];simp
      | succ j ih=>
        intro k hk
        obtain ⟨x,hx⟩:=at_some (show k<tn.length by omega)
        rw [List.range'_succ,List.map_cons,List.countP_cons,ih (k+1) (by omega)]
        have:refLess ts (n,k) (d,td.length)=false:=by
          unfold refLess
          dsimp only
          rw [getD_at htn,getD_at htd,List.drop_length,drop_at hx];rfl
        rw [this];simp
    rw [rowsOf_range,getD_at htn,hrow tn.length 0 (by omega)]
    split<;>omega
theorem end_all {d:Nat} {td:List UInt8} (htd:ts[d]? =some td):below ts (d,td.length) (all ts)=d:=by
  unfold below
  rw [(all_docs ts).countP_eq,end_docs htd _ (Nat.le_refl _)]
  have:=(List.getElem?_eq_some_iff.1 htd).1
  omega
end
section
open Go.RowKit
theorem Rep.has {s:Ar} {h:Int} {t:Tr} (hr:Rep s h t) (h0:h≠0):s.has h=true:=by
  cases hr with
  | nil=>exact absurd rfl h0
  | nd h1 _ _ _ _ _=>exact h1
theorem node_live {s s':Ar} {H':List Int} (hI':Inv s' H') (hg:Grow s s') {h:Int} (hh:h≠0→s.has h=true) {k:Int} (hk:k∈(s.get h).kids) (h0:k≠0):s'.cnt k≠0:=by
  by_cases e:h=0
  · subst e
    rw [get_zero] at hk
    simp [Nd.kids,Nd.zero] at hk
    exact absurd hk h0
  · exact (hI'.kid_has (hg.has (hh e)).1 (by rw [(hg.has (hh e)).2];exact hk) h0).2
theorem Inv.keep' {s:Ar} {R:List Int} {k:Int} (h:Inv s R) (hl:R.length≤999990) (hk:k≠0→s.cnt k≠0):Inv (s.keep k) (k::R):=by
  by_cases h0:k=0
  · subst h0;rw [keep_zero];exact h.zero_cons (by omega)
  · exact h.keep (by omega) (hk h0)
theorem BitsR.ne {t:Tr} {l:List Bool} (h:BitsR t l) (hl:l≠[]) {s:Ar} {x:Int} (hr:Rep s x t):x≠0:=by
  rcases h.cases with ⟨-,h⟩|h
  · exact absurd h hl
  · exact hr.ne_of h
theorem wMade_ok {s:Ar} {n:Nd} (h0:n.k0≠0):wMade s n 0=((Tb.nodeD ⟨s,0⟩ n n.kids).1,(Tb.nodeD ⟨s,0⟩ n n.kids).2.e,(Tb.nodeD ⟨s,0⟩ n n.kids).2.s):=by
  unfold wMade Tb.nodeD
  rw [if_pos ⟨rfl,h0⟩,if_pos rfl]
theorem wMade_bad {s:Ar} {n:Nd} {e:Int} (h0:e≠0):wMade s n e=(0,e,s.dropAll n.kids):=by
  unfold wMade
  rw [if_neg (fun h=>h0 h.1)]
theorem made_rs {s : Ar} {n : Nd} {H : List Int} {P : Tr → Prop} (hI : Inv s (n.kids ++ H)) (hH : H.length ≤ 990000) (h0 : n.k0 ≠ 0) (ht : 1 ≤ n.tag ∧ n.tag ≤ 6) (hn : U64 n.a)
    (hp: ∀s' h,Grow s s'→s'.has h=true→s'.get h=n→ ∃t,Rep s' h t∧P t):Rs s (wMade s n 0) H 1 P:=by
  obtain ⟨a,b⟩:=nodeD_nw (t:=⟨s,0⟩) (n:=n) (l:=n.kids) hI (by simp [Nd.kids]) (by omega) ht hn (fun _ k hk _=>hk)
  rw [wMade_ok h0]
  generalize Tb.nodeD ⟨s,0⟩ n n.kids=r at a b⊢
  by_cases he:r.2.e=0
  · exact ⟨a.inv,a.grow,a.cost, .inl ⟨he,hp _ _ a.grow (b he).2.1 (b he).2.2⟩⟩
  · exact ⟨a.inv,a.grow,a.cost, .inr ⟨(a.full rfl he).1,a.bad he,(a.full rfl he).2⟩⟩
theorem wInsertL_T : ∀ {d : Nat} {s : Ar} {H : List Int} {h : Int} {l : List Int} {i x : Int}, Inv s H → H.length + d ≤ 800000 → WR s d h l → d ≤ 9 → 0 ≤ i → i ≤ l.length → 0 ≤ x ∧ x < 257 →
    ∃r,wInsertL d s h i x=some r∧Rs s r H (d*(l.length+4)) fun t=>WaveT d t (insA l i.toNat x)
  | 0,s,H,h,l,i,x,hI,hH,hw,hd,h0,hi,hx=>⟨_,rfl,hI.zero_cons (by omega),Grow.refl s,Nat.le_add_right _ _, .inl ⟨rfl, .nil, .nil, .none⟩⟩
  | d+1,s,H,h,l,i,x,hI,hH,hw,hd,h0,hi,hx=>by
    obtain ⟨hb,hk⟩:=hw.kids hI
    have hhas:h≠0→s.has h=true:=by obtain ⟨t,hr, -⟩:=hw.ex;exact hr.has
    have hs:=hw.short
    have hbe:symBit x (8 - (d:Int))=bitD d x:=rfl
    have hFl:=F_le d (bitD d x) l
    have hFi:(F d (bitD d x) (l.take i.toNat)).length≤(F d (bitD d x) l).length:=by
      have h2:=congrArg List.length (filter_take (fun y=>bitD d y==bitD d x) l i.toNat)
      rw [List.length_take] at h2
      unfold F;omega
    unfold wInsertL
    dsimp only
    rw [hbe,alike_F hI hb i _ h0 hi,Option.bind_some]
    obtain ⟨u,hu,hU⟩:=wInsertL_T (d:=d) (h:=(s.get h).kid (bitD d x)) (i:=(((F d (bitD d x) (l.take i.toNat)).length:Nat):Int)) (x:=x) hI (by omega) (hk _) (by omega) (by omega) (by omega) hx
    rw [hu,Option.bind_some]
    have hc1:d*((F d (bitD d x) l).length+4)≤d*(l.length+4):=Nat.mul_le_mul_left d (by omega)
    have hc2:(d+1)*(l.length+4)=d*(l.length+4)+(l.length+4):=by rw [Nat.add_mul,Nat.one_mul]
    rw [hc2]
    generalize (d+1)*(l.length+4)=C2 at hc2
    generalize d*(l.length+4)=C1 at hc1 hc2⊢
    rcases hU.res with ⟨u0,t',hr',ht'⟩|⟨u0,u1,u2⟩
    · rw [if_pos u0]
      rw [Int.toNat_natCast] at ht'
      have ho: ∀{s':Ar} {H':List Int},Inv s' H'→Grow s s'→(s.get h).kid (!bitD d x)≠0→s'.cnt ((s.get h).kid (!bitD d x))≠0:=fun hI' hg'=>node_live hI' hg' hhas (by
        unfold Nd.kid;cases bitD d x
        · exact kid_mem.2.2.1
        · exact kid_mem.2.1)
      have j1:=hU.inv.keep' (k:=(s.get h).kid (!bitD d x)) (by simp;omega) (ho hU.inv hU.grow)
      have g1:=hU.grow.trans (Grow.keep u.2.2 ((s.get h).kid (!bitD d x)))
      have hb':=hb.grow g1 (node_live j1 g1 hhas kid_mem.1)
      obtain ⟨r,hr,hR⟩:=bInsert_R j1 (by simp;omega) hb' i (bitD d x) h0 (by simpa using hi)
      rw [hr,Option.bind_some]
      have hlen:(insL (l.map (bitD d)) i.toNat (bitD d x)).length=l.length+1:=by rw [insL_length' _ _ _ (by simp;omega)];simp
      have hRc:=hR.cost
      rw [List.length_map,busyN_keep] at hRc
      have hUc:=hU.cost
      obtain ⟨tq,ho1,ho2⟩:=(hk (!bitD d x)).ex
      have eqn:(⟨3,r.1,if bitD d x=true then (s.get h).k1 else u.1,if bitD d x=true then u.1 else (s.get h).k2,0,0,0⟩:Nd)=⟨3,r.1,if bitD d x=true then (s.get h).kid (!bitD d x) else u.1,if bitD d x=true then u.1 else (s.get h).kid (!bitD d x),0,0,0⟩:=by
        cases bitD d x<;>rfl
      rw [eqn]
      have hperm:Inv r.2.2 ((⟨3,r.1,if bitD d x=true then (s.get h).kid (!bitD d x) else u.1,if bitD d x=true then u.1 else (s.get h).kid (!bitD d x),0,0,0⟩:Nd).kids++H):=by
        have h0:=hR.inv.zero_cons (by simp;omega)
        refine h0.perm ?_
        cases bitD d x
        · exact (List.Perm.swap _ _ _).trans (List.Perm.cons _ ((List.Perm.swap _ _ _).trans (((List.Perm.swap _ _ _).trans (List.Perm.cons _ (List.Perm.swap _ _ _)))|>.trans (List.Perm.swap _ _ _)|>.trans (List.Perm.cons _ (List.Perm.swap _ _ _)))))
        · exact (List.Perm.swap _ _ _).trans (List.Perm.cons _ ((List.Perm.swap _ _ _).trans (List.Perm.cons _ (List.Perm.swap _ _ _))))
      rcases hR.res with ⟨r0,tb,hrb,htb⟩|⟨r0,r1,r2⟩
      · rw [r0]
        have hrne:r.1≠0:=htb.ne (by intro e;rw [e] at hlen;simp at hlen) hrb
        have hm:=made_rs (P:=fun t=>WaveT (d+1) t (insA l i.toNat x)) hperm (by omega) hrne ⟨by dsimp only;omega,by dsimp only;omega⟩ U64.zero (fun s' h' g' a b=>by
          have gu:Grow u.2.2 s':=((Grow.keep _ _).trans hR.grow).trans g'
          have go:Grow s s':=(g1.trans hR.grow).trans g'
          have hne:insA l i.toNat x≠[]:=by intro e;have:=insA_length l i.toNat x (by omega);rw [e] at this;simp at this
          have hbits:BitsR tb ((insA l i.toNat x).map (bitD d)):=by rw [insA_map];exact htb
          have hin:F d (bitD d x) (insA l i.toNat x)=insA (F d (bitD d x) l) (F d (bitD d x) (l.take i.toNat)).length x:=insA_filter_in _ _ _ _ (by simp)
          have hout:F d (!bitD d x) (insA l i.toNat x)=F d (!bitD d x) l:=insA_filter_out _ _ _ _ (by simp)
          rw [←hin] at ht'
          rw [←hout] at ho2
          cases hbx:bitD d x with
          | false=>
            rw [hbx] at b ht' ho2 ho1
            exact ⟨_, .nd a b (hrb.grow g') (hr'.grow gu) (ho1.grow go) .nil, .node hne hbits ht' ho2⟩
          | true=>
            rw [hbx] at b ht' ho2 ho1
            exact ⟨_, .nd a b (hrb.grow g') (ho1.grow go) (hr'.grow gu) .nil, .node hne hbits ho2 ht'⟩)
        have hmc:=hm.cost
        refine ⟨_,rfl,hm.inv,(g1.trans hR.grow).trans hm.grow,by omega,hm.res.imp id fun q=>⟨q.1,q.2.1,?_⟩⟩
        have:=q.2.2
        have:=hU.grow.size
        have:=hR.grow.size
        have:=Ar.keep_size u.2.2 ((s.get h).kid (!bitD d x))
        omega
      · rw [wMade_bad (show r.2.1≠0 by omega)]
        refine ⟨_,rfl,(Inv.dropAll hperm).zero_cons (by omega),(g1.trans hR.grow).trans (Grow.dropAll _ _),by show (r.2.2.dropAll _).busyN≤_;rw [busyN_dropAll];omega, .inr ⟨r0,rfl,?_⟩⟩
        have:=hU.grow.size
        rw [Ar.keep_size,busyN_keep,List.length_map] at r2
        omega
    · rw [if_neg (by omega)]
      refine ⟨_,rfl,?_,hU.grow,by have:=hU.cost;show u.2.2.busyN≤_;omega, .inr ⟨u0,rfl,by omega⟩⟩
      have:=hU.inv
      rw [u1] at this;exact this
theorem wInsert_R {s : Ar} {H : List Int} (hI : Inv s H) (hH : H.length ≤ 700000) {h : Int} {l : List Int} (hw : WR s 9 h l) (i x : Int) (h0 : 0 ≤ i) (hi : i ≤ l.length) (hx : 0 ≤ x ∧ x < 257) :
    ∃r,wInsert s h i x=some r∧Rs s r H (9*(l.length+4)) fun t=>WaveT 9 t (insA l i.toNat x):=by
  unfold wInsert
  rw [if_pos (by simp [wIs,hx.1,hx.2]),hw.len hI,if_neg (by omega)]
  exact wInsertL_T hI (by omega) hw (by omega) h0 hi hx
theorem WaveT.size1 {d:Nat} {t:Tr} {l:List Int} (h:WaveT d t l):t.size≤2*d*l.length:=by
  induction h with
  | none=>simp [Tr.size]
  | nil=>simp [Tr.size]
  | @node d tb t0 t1 l hne hb _ _ i0 i1=>
    have h1:=hb.size
    have h2:=F_split d l
    have h3:=List.length_pos_iff.2 hne
    rw [List.length_map] at h1
    have h4:2*d*(F d false l).length+2*d*(F d true l).length=2*d*l.length:=by rw [←Nat.mul_add,h2]
    have h5:2*(d+1)*l.length=2*d*l.length+2*l.length:=by rw [Nat.mul_add,Nat.add_mul]
    simp only [Tr.size]
    omega
theorem WaveT.size2: ∀{e d:Nat} {t:Tr} {l:List Int},WaveT (d+e) t l→8*t.size+16≤16*2 ^ e+e*l.length+16*(d*l.length)
  | 0,d,t,l,h=>by
    have:=h.size1
    rw [Nat.add_zero,Nat.mul_assoc] at this
    omega
  | e+1,d,t,l,h=>by
    have h1:=Nat.two_pow_pos e
    have hp:2 ^ (e+1)=2*2 ^ e:=by rw [Nat.pow_succ];omega
    rw [show d+(e+1)=(d+e)+1 by omega] at h
    cases h with
    | nil=>simp [Tr.size];omega
    | @node _ tb t0 t1 _ hne hb h0 h1'=>
      have i0:=WaveT.size2 h0
      have i1:=WaveT.size2 h1'
      have hbs:=hb.size
      have h2:=F_split (d+e) l
      rw [List.length_map] at hbs
      have h4:d*(F (d+e) false l).length+d*(F (d+e) true l).length=d*l.length:=by rw [←Nat.mul_add,h2]
      have h5:e*(F (d+e) false l).length+e*(F (d+e) true l).length=e*l.length:=by rw [←Nat.mul_add,h2]
      have h6:(e+1)*l.length=e*l.length+l.length:=by rw [Nat.add_mul,Nat.one_mul]
      rw [h6,hp]
      simp only [Tr.size]
      omega
theorem WaveT.size {t:Tr} {l:List Int} (h:WaveT 9 t l):8*t.size≤2032+39*l.length:=by
  have:=WaveT.size2 (e:=7) (d:=2) h
  omega
end
section
open Go.RowKit
def ItOk (x:Int×Int):Prop:=(0≤x.1∧x.1<9223372036854775808)∧0≤x.2∧x.2<9223372036854775808
inductive ListT:Tr→List (Int×Int)→Prop where
  | item {x:Int×Int}:ItOk x→ListT (.nd 4 x.1 x.2 .nil .nil .nil .nil) [x]
  | join {t0 t1:Tr} {l0 l1:List (Int×Int)}:ListT t0 l0→ListT t1 l1→ListT (.nd 5 ((l0++l1).length) 0 t0 t1 .nil .nil) (l0++l1)
theorem ListT.ne {t:Tr} {l:List (Int×Int)} (h:ListT t l):l≠[]:=by
  induction h with
  | item _=>simp
  | join _ _ i0 _=>exact fun e=>i0 (List.append_eq_nil_iff.1 e).1
theorem ListT.pos {t:Tr} {l:List (Int×Int)} (h:ListT t l):1≤l.length:=List.length_pos_iff.2 h.ne
theorem ListT.size {t:Tr} {l:List (Int×Int)} (h:ListT t l):t.size+1=2*l.length:=by
  induction h with
  | item _=>rfl
  | join _ _ i0 i1=>simp [Tr.size];omega
def ListR (t:Tr) (l:List (Int×Int)):Prop:=(t= .nil∧l=[])∨ListT t l
theorem ListR.size {t:Tr} {l:List (Int×Int)} (h:ListR t l):t.size≤2*l.length:=by
  rcases h with ⟨rfl,rfl⟩|h
  · exact Nat.le_refl _
  · have:=h.size;omega
theorem u64_ok {x:Int} (h:0≤x∧x<9223372036854775808):u64 x=x:=u64_in h.1 (by omega)
theorem w64_ok {x:Int} (h:0≤x∧x<9223372036854775808):wrap64 x=x:=IntWalk.wrap64_in _ (by omega)
theorem Rep.ne_ofL {s:Ar} {h:Int} {t:Tr} {l:List (Int×Int)} (hr:Rep s h t) (hb:ListT t l):h≠0:=by
  cases hb<;>exact hr.ne
theorem lIs_nd {s:Ar} {H:List Int} (hI:Inv s H) {h:Int} {t:Tr} {l:List (Int×Int)} (hr:Rep s h t) (hb:ListT t l) (hc:s.cnt h≠0):lIs s h=true:=by
  cases hb with
  | item _=>
    obtain ⟨_,_,_,_,hh,hg, -⟩:=hr.get
    simp [lIs,hh,hg,hI.cpos hh hc]
  | join _ _=>
    obtain ⟨_,_,_,_,hh,hg, -⟩:=hr.get
    simp [lIs,hh,hg,hI.cpos hh hc]
theorem lIs_zero (s:Ar):lIs s 0=false:=by simp [lIs,has_zero]
theorem lLen_zero (s:Ar):lLen s 0=0:=by unfold lLen;rw [lIs_zero];rfl
theorem lLen_T {s:Ar} {H:List Int} (hI:Inv s H) {h:Int} {t:Tr} {l:List (Int×Int)} (hr:Rep s h t) (hb:ListT t l) (hc:s.cnt h≠0) (hl:l.length≤1000000):lLen s h=l.length:=by
  unfold lLen
  rw [if_pos (lIs_nd hI hr hb hc)]
  cases hb with
  | item _=>
    obtain ⟨_,_,_,_,hh,hg, -⟩:=hr.get
    rw [hg];simp
  | join _ _=>
    obtain ⟨_,_,_,_,hh,hg, -⟩:=hr.get
    rw [hg]
    dsimp only
    rw [if_neg (by omega),w64n _ hl]
theorem lGetL_T {s:Ar} {H:List Int} (hI:Inv s H) {t:Tr} {l:List (Int×Int)} (hb:ListT t l): ∀{k:Nat} {h i:Int},Rep s h t→s.cnt h≠0→l.length≤1000000→l.length≤k→0≤i→i<l.length→lGetL k s h i=some (l.getD i.toNat (0,0)):=by
  induction hb with
  | @item x hx=>
    intro k h i hr hc hl hk h0 hi
    simp only [List.length_cons,List.length_nil] at hk hi
    obtain ⟨k,rfl⟩: ∃j,k=j+1:=⟨k - 1,by omega⟩
    obtain ⟨_,_,_,_,hh,hg, -⟩:=hr.get
    unfold lGetL
    rw [hg]
    dsimp only
    rw [if_neg (by omega),w64_ok hx.1,w64_ok hx.2,show i.toNat=0 by omega]
    rfl
  | @join t0 t1 l0 l1 b0 b1 i0 i1=>
    intro k h i hr hc hl hk h0 hi
    have p0:=b0.pos;have p1:=b1.pos
    rw [List.length_append] at hl hk hi
    obtain ⟨k,rfl⟩: ∃j,k=j+1:=⟨k - 1,by omega⟩
    obtain ⟨x,y,_,_,hh,hg,r0,r1, -⟩:=hr.get
    obtain ⟨c0,c1, -⟩:=hI.kids_of hh hg
    unfold lGetL
    rw [hg]
    dsimp only
    rw [if_pos rfl,lLen_T hI r0 b0 (c0 (r0.ne_ofL b0)) (by omega)]
    by_cases hlow:(l0.length:Int)≤i
    · rw [if_pos hlow,w64 (by omega) (by omega),i1 r1 (c1 (r1.ne_ofL b1)) (by omega) (by omega) (by omega) (by omega)]
      rw [List.getD_eq_getElem?_getD,List.getD_eq_getElem?_getD,List.getElem?_append_right (by omega)]
      congr 3;omega
    · rw [if_neg hlow,i0 r0 (c0 (r0.ne_ofL b0)) (by omega) (by omega) (by omega) (by omega)]
      rw [List.getD_eq_getElem?_getD,List.getD_eq_getElem?_getD,List.getElem?_append_left (by omega)]
structure LR (s:Ar) (h:Int) (l:List (Int×Int)):Prop where
  ex: ∃t,Rep s h t∧ListR t l
  live:h≠0→s.cnt h≠0
  short:l.length≤4000
theorem LR.cases {s:Ar} {h:Int} {l:List (Int×Int)} (hb:LR s h l):(h=0∧l=[])∨ ∃t,Rep s h t∧ListT t l∧s.cnt h≠0:=by
  obtain ⟨t,h1,h2⟩:=hb.ex
  rcases h2 with ⟨rfl,rfl⟩|h2
  · exact .inl ⟨h1.zero,rfl⟩
  · exact .inr ⟨t,h1,h2,hb.live (h1.ne_ofL h2)⟩
theorem LR.len {s:Ar} {H:List Int} (hI:Inv s H) {h:Int} {l:List (Int×Int)} (hb:LR s h l):lLen s h=l.length:=by
  rcases hb.cases with ⟨rfl,rfl⟩|⟨t,h1,h2,h3⟩
  · exact lLen_zero s
  · exact lLen_T hI h1 h2 h3 (by have:=hb.short;omega)
theorem LR.get {s:Ar} {H:List Int} (hI:Inv s H) {h:Int} {l:List (Int×Int)} (hb:LR s h l) (i:Int):lGet s h i=if i<0∨(l.length:Int)≤i then some ((0,0),false) else some (l.getD i.toNat (0,0),true):=by
  unfold lGet
  rw [hb.len hI]
  by_cases hi:i<0∨(l.length:Int)≤i
  · rw [if_pos hi,if_pos hi]
  · rw [if_neg hi,if_neg hi]
    have:=hb.short
    rcases hb.cases with ⟨rfl,rfl⟩|⟨t,h1,h2,h3⟩
    · exact absurd hi (by simp only [List.length_nil];omega)
    · rw [lGetL_T hI h2 h1 h3 (by omega) (by unfold rounds;omega) (by omega) (by omega)];rfl
theorem eachO_T {α:Type} (f:Int→Option α) (l:List α): ∀(d:Nat) (i:Nat),i+d=l.length→(∀j:Nat,i≤j→ ∀x,l[j]? =some x→f (j:Int)=some x)→eachO f d (i:Int)=some (l.drop i)
  | 0,i,hd,h=>by unfold eachO;rw [List.drop_of_length_le (by omega)]
  | d+1,i,hd,h=>by
    unfold eachO
    obtain ⟨x,hx⟩: ∃x,l[i]? =some x:=⟨_,List.getElem?_eq_getElem (by omega)⟩
    obtain ⟨h1,h2⟩:=List.getElem?_eq_some_iff.1 hx
    rw [h i (Nat.le_refl _) x hx,Option.bind_some,show ((i:Int)+1)=((i+1:Nat):Int) by omega,eachO_T f l d (i+1) (by omega) (fun j hj=>h j (by omega)),Option.bind_some,List.drop_eq_getElem_cons h1,h2]
theorem LR.all {s:Ar} {H:List Int} (hI:Inv s H) {h:Int} {l:List (Int×Int)} (hb:LR s h l):lAll s h=some l:=by
  unfold lAll
  rw [hb.len hI,Int.toNat_natCast]
  have:=eachO_T (fun i=>(lGet s h i).map (·.1)) l l.length 0 (by omega) (fun j _ x hx=>by
    obtain ⟨h1,h2⟩:=List.getElem?_eq_some_iff.1 hx
    rw [hb.get hI,if_neg (by omega),Int.toNat_natCast,List.getD_eq_getElem?_getD,hx];rfl)
  simpa using this
theorem WR.all {s:Ar} {H:List Int} (hI:Inv s H) {h:Int} {l:List Int} (hw:WR s 9 h l):wAll s h=some l:=by
  unfold wAll
  rw [hw.len hI,Int.toNat_natCast]
  have:=eachO_T (fun i=>(wGet s h i).map (·.1)) l l.length 0 (by omega) (fun j _ x hx=>by
    obtain ⟨h1,h2⟩:=List.getElem?_eq_some_iff.1 hx
    rw [hw.get hI,if_neg (by omega),Int.toNat_natCast,List.getD_eq_getElem?_getD,hx];rfl)
  simpa using this
theorem BR.all {s:Ar} {H:List Int} (hI:Inv s H) {h:Int} {l:List Bool} (hw:BR s h l):bAll s h=some l:=by
  unfold bAll
  rw [hw.len hI,Int.toNat_natCast]
  have:=eachO_T (fun i=>(bGet s h i).map (·.1)) l l.length 0 (by omega) (fun j _ x hx=>by
    obtain ⟨h1,h2⟩:=List.getElem?_eq_some_iff.1 hx
    rw [hw.get hI,if_neg (by omega),Int.toNat_natCast,List.getD_eq_getElem?_getD,hx];rfl)
  simpa using this
theorem item_T {t : Tb} {H : List Int} (hI : Inv t.s H) (hH : H.length ≤ 990000) {x : Int × Int} (hx : ItOk x) :
    Nw t (t.item x).2 (t.item x).1 H 1∧((t.item x).2.e=0→ ∃t',Rep (t.item x).2.s (t.item x).1 t'∧ListT t' [x]):=by
  obtain ⟨a,b⟩:=nodeD_nw (t:=t) (n:=⟨4,0,0,0,0,u64 x.1,u64 x.2⟩) (l:=[0,0]) ((hI.zero_cons (by omega)).zero_cons (by simp;omega)) (by simp) (by omega) ⟨by dsimp only;omega,by dsimp only;omega⟩ (U64.u64 _) (by simp [Nd.kids])
  refine ⟨a,fun he=> ?_⟩
  obtain ⟨-,b2,b3⟩:=b he
  exact ⟨_, .nd b2 (b3.trans (by rw [u64_ok hx.1,u64_ok hx.2])) .nil .nil .nil .nil, .item hx⟩
theorem lpair_T {t : Tb} {x y : Int} {H : List Int} (hI : Inv t.s (x :: y :: H)) (hH : H.length ≤ 990000) {l0 l1 : List (Int × Int)} (hl : (l0 ++ l1).length ≤ 1000000)
    (h:t.e=0→(∃t0,Rep t.s x t0∧ListT t0 l0)∧ ∃t1,Rep t.s y t1∧ListT t1 l1):
    Nw t (t.lpair x y).2 (t.lpair x y).1 H 1∧((t.lpair x y).2.e=0→ ∃t',Rep (t.lpair x y).2.s (t.lpair x y).1 t'∧ListT t' (l0++l1)):=by
  obtain ⟨a,b⟩:=nodeD_nw (t:=t) (n:=⟨5,x,y,0,0,u64 (wrap64 (lLen t.s x+lLen t.s y)),0⟩) (l:=[x,y]) hI (by simp) (by omega) ⟨by dsimp only;omega,by dsimp only;omega⟩ (U64.u64 _) (fun _ k hk h0=>by
    simp [Nd.kids] at hk
    rcases hk with rfl|rfl|hk
    · simp
    · simp
    · exact absurd hk h0)
  refine ⟨a,fun he=> ?_⟩
  obtain ⟨b1,b2,b3⟩:=b he
  obtain ⟨⟨t0,r0,q0⟩,t1,r1,q1⟩:=h b1
  have c0:t.s.cnt x≠0:=hI.pos (by simp) (r0.ne_ofL q0)
  have c1:t.s.cnt y≠0:=hI.pos (by simp) (r1.ne_ofL q1)
  rw [List.length_append] at hl
  refine ⟨_, .nd b2 ?_ (r0.grow a.grow) (r1.grow a.grow) .nil .nil, .join q0 q1⟩
  refine b3.trans ?_
  rw [lLen_T hI r0 q0 c0 (by omega),lLen_T hI r1 q1 c1 (by omega),w64 (by omega) (by omega),u64_in (by omega) (by omega)]
  simp
theorem lHigh_zero (s:Ar):lHigh rounds s 0=some 0:=by
  rw [show rounds=9999+1 from rfl]
  unfold lHigh
  rw [if_neg (by rw [lIs_zero];decide)]
theorem lHigh_T {s : Ar} {H : List Int} (hI : Inv s H) {t : Tr} {l : List (Int × Int)} (hb : ListT t l) : ∀ {k : Nat} {h : Int}, Rep s h t → s.cnt h ≠ 0 → l.length ≤ 1000000 → l.length < k →
    ∃p,lHigh k s h=some p∧1≤p∧p≤l.length∧(p≠1→ ∃a b t0 t1 l0 l1,t= .nd 5 a b t0 t1 .nil .nil∧l=l0++l1∧ListT t0 l0∧ListT t1 l1):=by
  induction hb with
  | @item x hx=>
    intro k h hr hc hl hk
    obtain ⟨k,rfl⟩: ∃j,k=j+1:=⟨k - 1,by omega⟩
    have hi:=lIs_nd hI hr (.item hx) hc
    obtain ⟨_,_,_,_,hh,hg, -⟩:=hr.get
    refine ⟨1,?_,by omega,by simp,fun h=>absurd rfl h⟩
    unfold lHigh
    rw [if_pos hi,hg]
    dsimp only
    rw [if_pos rfl]
  | @join t0 t1 l0 l1 b0 b1 i0 i1=>
    intro k h hr hc hl hk
    have p0:=b0.pos;have p1:=b1.pos
    rw [List.length_append] at hl hk
    obtain ⟨k,rfl⟩: ∃j,k=j+1:=⟨k - 1,by omega⟩
    have hi:=lIs_nd hI hr (.join b0 b1) hc
    obtain ⟨x,y,_,_,hh,hg,r0,r1, -⟩:=hr.get
    obtain ⟨c0,c1, -⟩:=hI.kids_of hh hg
    obtain ⟨p,e0,e1,e2, -⟩:=i0 r0 (c0 (r0.ne_ofL b0)) (by omega) (k:=k) (by omega)
    obtain ⟨q,f0,f1,f2, -⟩:=i1 r1 (c1 (r1.ne_ofL b1)) (by omega) (k:=k) (by omega)
    have hw:wrap64 (1+imax p q)=1+imax p q:=w64 (by unfold imax;split<;>omega) (by unfold imax;split<;>omega)
    refine ⟨1+imax p q,?_,by unfold imax;split<;>omega,by rw [List.length_append];unfold imax;split<;>omega,fun _=>⟨_,_,_,_,_,_,rfl,rfl,b0,b1⟩⟩
    unfold lHigh
    rw [if_pos hi,hg]
    dsimp only
    rw [if_neg (by omega),e0,f0]
    simp only [Option.bind_some,hw]
theorem join_T {t : Tb} {x y : Int} {H : List Int} (hI : Inv t.s (x :: y :: H)) (hH : H.length ≤ 980000) {l0 l1 : List (Int × Int)} (hl : (l0 ++ l1).length ≤ 9900) (he : t.e = 0) {t0 t1 : Tr} (r0 : Rep t.s x t0) (q0 : ListT t0 l0) (r1 : Rep t.s y t1) (q1 : ListT t1 l1) :
    ∃r,t.join x y=some r∧Nw t r.2 r.1 H 3∧(r.2.e=0→ ∃t',Rep r.2.s r.1 t'∧ListT t' (l0++l1)):=by
  unfold Tb.join
  have c0:t.s.cnt x≠0:=hI.pos (by simp) (r0.ne_ofL q0)
  have c1:t.s.cnt y≠0:=hI.pos (by simp) (r1.ne_ofL q1)
  rw [List.length_append] at hl
  obtain ⟨p,e0,e1,e2,e3⟩:=lHigh_T hI q0 (k:=rounds) r0 c0 (by omega) (by unfold rounds;omega)
  obtain ⟨q,f0,f1,f2,f3⟩:=lHigh_T hI q1 (k:=rounds) r1 c1 (by omega) (by unfold rounds;omega)
  rw [e0,f0,Option.bind_some,Option.bind_some,if_pos he,if_neg (by intro h;rcases h with h|h;exact r0.ne_ofL q0 h;exact r1.ne_ofL q1 h),w64 (x:=q+1) (by omega) (by omega),w64 (x:=p+1) (by omega) (by omega)]
  by_cases hA:q+1<p
  · rw [if_pos hA]
    obtain ⟨a,b,u,v,lu,lv,rfl,rfl,qu,qv⟩:=e3 (by omega)
    obtain ⟨o1,o2,o3,o4,o5,o6⟩:=opened_T hI (by simp;omega) r0
    rw [List.length_append] at hl
    have cu:(t.opened x).s.cnt (t.s.get x).k0≠0:=o1.pos (by simp) (o5.ne_ofL qu)
    have cv:(t.opened x).s.cnt (t.s.get x).k1≠0:=o1.pos (by simp) (o6.ne_ofL qv)
    obtain ⟨pu,g0,g1,g2,g3⟩:=lHigh_T o1 qu (k:=rounds) o5 cu (by omega) (by unfold rounds;omega)
    obtain ⟨pv,j0,j1,j2,j3⟩:=lHigh_T o1 qv (k:=rounds) o6 cv (by omega) (by unfold rounds;omega)
    dsimp only
    rw [g0,j0,Option.bind_some,Option.bind_some]
    have nO:Nw t (t.opened x) (t.s.get x).k0 ((t.s.get x).k1::y::H) 0:=⟨o1,o2,fun e=>absurd (o4.trans he) e,fun e=>absurd he e,by omega,fun _ e=>absurd (o4.trans he) e⟩
    by_cases hB:pv≤pu
    · rw [if_pos hB]
      obtain ⟨n1,s1⟩:=lpair_T (t:=t.opened x) (x:=(t.s.get x).k1) (y:=y) (H:=(t.s.get x).k0::H) (l0:=lv) (l1:=l1) (o1.perm ((List.Perm.swap _ _ _).trans ((List.Perm.swap _ _ _).cons _))) (by simp;omega) (by simp;omega) (fun _=>⟨⟨_,o6,qv⟩,_,r1.grow o2,q1⟩)
      obtain ⟨n2,s2⟩:=lpair_T (l0:=lu) (l1:=lv++l1) n1.inv.swap (by omega) (by simp;omega) (fun e=>⟨⟨_,o5.grow n1.grow,qu⟩,s1 e⟩)
      exact ⟨_,rfl,((nO.trans n1).trans n2).mono (by omega),fun e=>by rw [List.append_assoc];exact s2 e⟩
    · rw [if_neg hB]
      obtain ⟨a',b',w,z,lw,lz,rfl,rfl,qw,qz⟩:=j3 (by omega)
      obtain ⟨v1,v2,v3,v4,v5,v6⟩:=opened_T (t:=t.opened x) (x:=(t.s.get x).k1) (H:=(t.s.get x).k0::y::H) o1.swap (by simp;omega) o6
      rw [List.length_append] at hl
      obtain ⟨n1,s1⟩:=lpair_T (t:=(t.opened x).opened (t.s.get x).k1) (x:=(t.s.get x).k0) (y:=((t.opened x).s.get (t.s.get x).k1).k0) (H:=((t.opened x).s.get (t.s.get x).k1).k1::y::H) (l0:=lu) (l1:=lw)
        (v1.perm (((List.Perm.swap _ _ _).cons _).trans ((List.Perm.swap _ _ _).trans ((List.Perm.refl _).cons _)))) (by simp;omega) (by simp;omega) (fun _=>⟨⟨_,o5.grow v2,qu⟩,_,v5,qw⟩)
      obtain ⟨n2,s2⟩:=lpair_T (x:=((t.opened x).s.get (t.s.get x).k1).k1) (y:=y) (H:=(((t.opened x).opened (t.s.get x).k1).lpair (t.s.get x).k0 ((t.opened x).s.get (t.s.get x).k1).k0).1::H) (l0:=lz) (l1:=l1) (n1.inv.perm ((List.Perm.swap _ _ _).trans ((List.Perm.swap _ _ _).cons _))) (by simp;omega) (by simp;omega) (fun e=>⟨⟨_,v6.grow n1.grow,qz⟩,_,(r1.grow (o2.trans v2)).grow n1.grow,q1⟩)
      obtain ⟨n3,s3⟩:=lpair_T (l0:=lu++lw) (l1:=lz++l1) n2.inv.swap (by omega) (by simp;omega) (fun e=>by
        obtain ⟨z0,z1,z2⟩:=s1 (n2.ok e)
        exact ⟨⟨z0,z1.grow n2.grow,z2⟩,s2 e⟩)
      have nP:Nw (t.opened x) ((t.opened x).opened (t.s.get x).k1) ((t.opened x).s.get (t.s.get x).k1).k0 (((t.opened x).s.get (t.s.get x).k1).k1::(t.s.get x).k0::y::H) 0:=⟨v1,v2,fun e=>absurd (v4.trans (o4.trans he)) e,fun e=>absurd (o4.trans he) e,by omega,fun _ e=>absurd (v4.trans (o4.trans he)) e⟩
      refine ⟨_,rfl,((((nO.trans nP).trans n1).trans n2).trans n3).mono (by omega),fun e=> ?_⟩
      have:=s3 e
      rw [show (lu++(lw++lz))++l1=(lu++lw)++(lz++l1) by simp]
      exact this
  rw [if_neg hA]
  by_cases hA':p+1<q
  · rw [if_pos hA']
    obtain ⟨a,b,u,v,lu,lv,rfl,rfl,qu,qv⟩:=f3 (by omega)
    obtain ⟨o1,o2,o3,o4,o5,o6⟩:=opened_T (x:=y) (H:=x::H) hI.swap (by simp;omega) r1
    rw [List.length_append] at hl
    have cu:(t.opened y).s.cnt (t.s.get y).k0≠0:=o1.pos (by simp) (o5.ne_ofL qu)
    have cv:(t.opened y).s.cnt (t.s.get y).k1≠0:=o1.pos (by simp) (o6.ne_ofL qv)
    obtain ⟨pu,g0,g1,g2,g3⟩:=lHigh_T o1 qu (k:=rounds) o5 cu (by omega) (by unfold rounds;omega)
    obtain ⟨pv,j0,j1,j2,j3⟩:=lHigh_T o1 qv (k:=rounds) o6 cv (by omega) (by unfold rounds;omega)
    dsimp only
    rw [j0,g0,Option.bind_some,Option.bind_some]
    have nO:Nw t (t.opened y) (t.s.get y).k0 ((t.s.get y).k1::x::H) 0:=⟨o1,o2,fun e=>absurd (o4.trans he) e,fun e=>absurd he e,by omega,fun _ e=>absurd (o4.trans he) e⟩
    by_cases hB:pu≤pv
    · rw [if_pos hB]
      obtain ⟨n1,s1⟩:=lpair_T (t:=t.opened y) (x:=x) (y:=(t.s.get y).k0) (H:=(t.s.get y).k1::H) (l0:=l0) (l1:=lu) (o1.perm (((List.Perm.swap _ _ _).cons _).trans (List.Perm.swap _ _ _))) (by simp;omega) (by simp;omega) (fun _=>⟨⟨_,r0.grow o2,q0⟩,_,o5,qu⟩)
      obtain ⟨n2,s2⟩:=lpair_T (l0:=l0++lu) (l1:=lv) n1.inv (by omega) (by simp;omega) (fun e=>⟨s1 e,_,o6.grow n1.grow,qv⟩)
      exact ⟨_,rfl,((nO.trans n1).trans n2).mono (by omega),fun e=>by rw [←List.append_assoc];exact s2 e⟩
    · rw [if_neg hB]
      obtain ⟨a',b',w,z,lw,lz,rfl,rfl,qw,qz⟩:=g3 (by omega)
      obtain ⟨v1,v2,v3,v4,v5,v6⟩:=opened_T (t:=t.opened y) (x:=(t.s.get y).k0) (H:=(t.s.get y).k1::x::H) o1 (by simp;omega) o5
      rw [List.length_append] at hl
      obtain ⟨n1,s1⟩:=lpair_T (t:=(t.opened y).opened (t.s.get y).k0) (x:=x) (y:=((t.opened y).s.get (t.s.get y).k0).k0) (H:=((t.opened y).s.get (t.s.get y).k0).k1::(t.s.get y).k1::H) (l0:=l0) (l1:=lw)
        (v1.perm ((((((List.Perm.swap _ _ _).cons _).cons _).trans ((List.Perm.swap _ _ _).cons _)).trans (List.Perm.swap _ _ _)))) (by simp;omega) (by simp;omega) (fun _=>⟨⟨_,(r0.grow o2).grow v2,q0⟩,_,v5,qw⟩)
      obtain ⟨n2,s2⟩:=lpair_T (x:=((t.opened y).s.get (t.s.get y).k0).k1) (y:=(t.s.get y).k1) (H:=(((t.opened y).opened (t.s.get y).k0).lpair x ((t.opened y).s.get (t.s.get y).k0).k0).1::H) (l0:=lz) (l1:=lv) (n1.inv.perm ((List.Perm.swap _ _ _).trans ((List.Perm.swap _ _ _).cons _))) (by simp;omega) (by simp;omega) (fun e=>⟨⟨_,v6.grow n1.grow,qz⟩,_,(o6.grow v2).grow n1.grow,qv⟩)
      obtain ⟨n3,s3⟩:=lpair_T (l0:=l0++lw) (l1:=lz++lv) n2.inv.swap (by omega) (by simp;omega) (fun e=>by
        obtain ⟨z0,z1,z2⟩:=s1 (n2.ok e)
        exact ⟨⟨z0,z1.grow n2.grow,z2⟩,s2 e⟩)
      have nP:Nw (t.opened y) ((t.opened y).opened (t.s.get y).k0) ((t.opened y).s.get (t.s.get y).k0).k0 (((t.opened y).s.get (t.s.get y).k0).k1::(t.s.get y).k1::x::H) 0:=⟨v1,v2,fun e=>absurd (v4.trans (o4.trans he)) e,fun e=>absurd (o4.trans he) e,by omega,fun _ e=>absurd (v4.trans (o4.trans he)) e⟩
      refine ⟨_,rfl,((((nO.trans nP).trans n1).trans n2).trans n3).mono (by omega),fun e=> ?_⟩
      have:=s3 e
      rw [show l0++((lw++lz)++lv)=(l0++lw)++(lz++lv) by simp]
      exact this
  rw [if_neg hA']
  obtain ⟨n1,s1⟩:=lpair_T (t:=t) (x:=x) (y:=y) (H:=H) (l0:=l0) (l1:=l1) hI (by omega) (by simp;omega) (fun _=>⟨⟨_,r0,q0⟩,_,r1,q1⟩)
  exact ⟨_,rfl,n1.mono (by omega),s1⟩
theorem has_le {s:Ar} {H:List Int} (hI:Inv s H) {h:Int} (hh:h≠0→s.has h=true):0≤h∧h≤6000:=by
  by_cases e:h=0
  · omega
  · have:=has_iff.1 (hh e)
    have:=hI.wq.small
    omega
end
section
open Go.RowKit
def repL (l:List (Int×Int)) (i:Nat) (m:List (Int×Int)):List (Int×Int):=l.take i++(m++l.drop (i+1))
theorem repL_left (a b m:List (Int×Int)) (i:Nat) (h:i<a.length):repL (a++b) i m=repL a i m++b:=by
  unfold repL
  rw [List.take_append_of_le_length (by omega),List.drop_append_of_le_length (by omega)];simp
theorem repL_right (a b m:List (Int×Int)) (i:Nat) (h:a.length≤i):repL (a++b) i m=a++repL b (i - a.length) m:=by
  unfold repL
  rw [List.take_append,List.drop_append,List.take_of_length_le h,List.drop_of_length_le (by omega),show i+1 - a.length=i - a.length+1 by omega];simp
theorem repL_length (l m:List (Int×Int)) (i:Nat) (h:i<l.length):(repL l i m).length=l.length - 1+m.length:=by unfold repL;simp;omega
theorem join_R {t : Tb} {x y : Int} {H : List Int} (hI : Inv t.s (x :: y :: H)) (hH : H.length ≤ 980000) {l0 l1 : List (Int × Int)} (hl : (l0 ++ l1).length ≤ 9000)
    (h0:t.e=0→(∃t0,Rep t.s x t0∧ListR t0 l0)∧ ∃t1,Rep t.s y t1∧ListR t1 l1)
    (hx:x≠0→ ∃t' l',Rep t.s x t'∧ListT t' l'∧l'.length≤9000) (hy:y≠0→ ∃t' l',Rep t.s y t'∧ListT t' l'∧l'.length≤9000):
    ∃r,t.join x y=some r∧Nw t r.2 r.1 H 3∧(r.2.e=0→ ∃t',Rep r.2.s r.1 t'∧ListR t' (l0++l1)):=by
  have hh: ∀z∈[x,y],∃p,lHigh rounds t.s z=some p:=fun z hz=>by
    by_cases z0:z=0
    · subst z0;exact ⟨0,lHigh_zero _⟩
    · simp only [List.mem_cons,List.not_mem_nil,or_false] at hz
      rcases hz with rfl|rfl
      · obtain ⟨t',l',a,b,c⟩:=hx z0
        obtain ⟨p,hp, -⟩:=lHigh_T hI b (k:=rounds) a (hI.pos (by simp) z0) (by omega) (by unfold rounds;omega)
        exact ⟨p,hp⟩
      · obtain ⟨t',l',a,b,c⟩:=hy z0
        obtain ⟨p,hp, -⟩:=lHigh_T hI b (k:=rounds) a (hI.pos (by simp) z0) (by omega) (by unfold rounds;omega)
        exact ⟨p,hp⟩
  obtain ⟨p,hp⟩:=hh x (by simp)
  obtain ⟨q,hq⟩:=hh y (by simp)
  by_cases he:t.e=0
  · obtain ⟨⟨t0,r0,q0⟩,t1,r1,q1⟩:=h0 he
    have bx:=has_le hI (r0.has)
    have bj:=has_le hI (r1.has)
    rcases q0 with ⟨rfl,rfl⟩|q0
    · obtain rfl:=r0.zero
      refine ⟨(y,t),?_,⟨hI.tail_zero,Grow.refl _,fun e=>absurd he e,fun _=>rfl,by show t.s.busyN≤_;omega,fun _ e=>absurd he e⟩,fun _=>⟨t1,r1,by simpa using q1⟩⟩
      unfold Tb.join
      rw [hp,hq,Option.bind_some,Option.bind_some,if_pos he,if_pos (.inl rfl),w64 (by omega) (by omega),Int.zero_add]
    · rcases q1 with ⟨rfl,rfl⟩|q1
      · obtain rfl:=r1.zero
        refine ⟨(x,t),?_,⟨hI.swap.tail_zero,Grow.refl _,fun e=>absurd he e,fun _=>rfl,by show t.s.busyN≤_;omega,fun _ e=>absurd he e⟩,fun _=>⟨t0,r0,by simpa using .inr q0⟩⟩
        unfold Tb.join
        rw [hp,hq,Option.bind_some,Option.bind_some,if_pos he,if_pos (.inr rfl),w64 (by omega) (by omega),Int.add_zero]
      · obtain ⟨r,a,b,c⟩:=join_T hI hH (by omega) he r0 q0 r1 q1
        exact ⟨r,a,b,fun e=>by obtain ⟨t',u,v⟩:=c e;exact ⟨t',u, .inr v⟩⟩
  · refine ⟨(0,t.drops [x,y]),?_,(drops_nw (l:=[x,y]) hI (by omega)).mono (by omega),fun h'=>absurd h' he⟩
    unfold Tb.join
    rw [hp,hq,Option.bind_some,Option.bind_some,if_neg he]
def OneOk (one:Tb→Int→Option (Int×Tb)) (y:Int×Int) (m:List (Int×Int)) (c:Nat):Prop:=
  ∀(s:Ar) (H:List Int) (h:Int) (t:Tr),Inv s H→H.length≤960000→Rep s h t→ListT t [y]→s.cnt h≠0→
    ∃r,one ⟨s,0⟩ h=some r∧Nw ⟨s,0⟩ r.2 r.1 H c∧(r.2.e=0→ ∃t',Rep r.2.s r.1 t'∧ListR t' m)
theorem change_T {one : Tb → Int → Option (Int × Tb)} {y : Int × Int} {m : List (Int × Int)} {c : Nat} (h1 : OneOk one y m c) (hm : m.length ≤ 10) {t : Tr} {l : List (Int × Int)} (hb : ListT t l) :
    ∀{k:Nat} {s:Ar} {H:List Int} {h i:Int},Inv s H→Rep s h t→s.cnt h≠0→l.length≤8000→l.length≤k→H.length+l.length≤950000→0≤i→l[i.toNat]? =some y→
    ∃r,Tb.change one k ⟨s,0⟩ h i=some r∧Nw ⟨s,0⟩ r.2 r.1 H (c+3*l.length)∧(r.2.e=0→ ∃t',Rep r.2.s r.1 t'∧ListR t' (repL l i.toNat m)):=by
  induction hb with
  | @item x hx=>
    intro k s H h i hI hr hc hl hk hH h0 hi
    simp only [List.length_cons,List.length_nil] at hk hH
    obtain ⟨k,rfl⟩: ∃j,k=j+1:=⟨k - 1,by omega⟩
    have hi0:i.toNat=0:=by
      obtain ⟨q, -⟩:=List.getElem?_eq_some_iff.1 hi
      simp at q;omega
    rw [hi0] at hi
    simp at hi
    subst hi
    obtain ⟨r,a,b,d⟩:=h1 s H h _ hI (by omega) hr (.item hx) hc
    obtain ⟨_,_,_,_,hh,hg, -⟩:=hr.get
    refine ⟨r,?_,b.mono (by omega),fun e=> ?_⟩
    · unfold Tb.change
      dsimp only
      rw [if_pos (.inr (by rw [hg]))];exact a
    · obtain ⟨t',u,v⟩:=d e
      exact ⟨t',u,by rw [hi0];simpa [repL] using v⟩
  | @join t0 t1 l0 l1 b0 b1 i0 i1=>
    intro k s H h i hI hr hc hl hk hH h0 hi
    have p0:=b0.pos;have p1:=b1.pos
    have hli:=lIs_nd hI hr (.join b0 b1) hc
    rw [List.length_append] at hl hk hH
    obtain ⟨k,rfl⟩: ∃j,k=j+1:=⟨k - 1,by omega⟩
    obtain ⟨x,z,_,_,hh,hg,r0,r1, -⟩:=hr.get
    obtain ⟨c0,c1, -⟩:=hI.kids_of hh hg
    have x0:=r0.ne_ofL b0;have z0:=r1.ne_ofL b1
    have hlen:=(List.getElem?_eq_some_iff.1 hi).1
    rw [List.length_append] at hlen
    unfold Tb.change
    dsimp only
    rw [if_neg (by rw [hg,hli];simp),hg]
    dsimp only
    rw [lLen_T hI r0 b0 (c0 x0) (by omega)]
    by_cases hlow:(l0.length:Int)≤i
    · rw [if_pos hlow,w64 (by omega) (by omega)]
      have g1:=Grow.keep s x
      have j1:=hI.keep (by omega) (c0 x0)
      have c1':=(j1.kids_of (g1.has hh).1 ((g1.has hh).2.trans hg)).2.1 z0
      have hi':l1[(i - (l0.length:Int)).toNat]? =some y:=by
        rw [List.getElem?_append_right (by omega)] at hi
        rw [show (i - (l0.length:Int)).toNat=i.toNat - l0.length by omega];exact hi
      obtain ⟨r,a,b,d⟩:=i1 (k:=k) (i:=i - l0.length) j1 (r1.grow g1) c1' (by omega) (by omega) (by rw [List.length_cons];omega) (by omega) hi'
      show∃r',((Tb.change one k ⟨s.keep x,0⟩ z (i - l0.length)).bind fun r=>r.2.join x r.1)=some r'∧_
      rw [a,Option.bind_some]
      have hrl:=repL_length l1 m (i - (l0.length:Int)).toNat (by omega)
      obtain ⟨r',a',b',d'⟩:=join_R (t:=r.2) (x:=x) (y:=r.1) (H:=H) (l0:=l0) (l1:=repL l1 (i - l0.length).toNat m) b.inv.swap (by omega) (by rw [List.length_append];omega) (fun e=>⟨⟨_,(r0.grow g1).grow b.grow, .inr b0⟩,d e⟩) (fun _=>⟨_,_,(r0.grow g1).grow b.grow,b0,by omega⟩) (fun hr0=>by
        have e:r.2.e=0:=Classical.byContradiction fun e=>hr0 (b.bad e)
        obtain ⟨t',u,v⟩:=d e
        rcases v with ⟨rfl, -⟩|v
        · exact absurd u.zero hr0
        · exact ⟨t',_,u,v,by omega⟩)
      refine ⟨r',a',(b.keepL.trans b').mono (by rw [List.length_append];omega),fun e=> ?_⟩
      rw [repL_right _ _ _ _ (by omega),show i.toNat - l0.length=(i - (l0.length:Int)).toNat by omega]
      exact d' e
    · rw [if_neg hlow]
      have hi':l0[i.toNat]? =some y:=by
        rw [List.getElem?_append_left (by omega)] at hi;exact hi
      obtain ⟨r,a,b,d⟩:=i0 (k:=k) hI r0 (c0 x0) (by omega) (by omega) (by omega) h0 hi'
      rw [a,Option.bind_some]
      have hrl:=repL_length l0 m i.toNat (by omega)
      have hk1:=b.inv.kids_of (b.grow.has hh).1 ((b.grow.has hh).2.trans hg)
      have b1':=b.keepR (x:=z) (by omega) hk1.2.1
      have gk:Grow r.2.s (r.2.keep z).s:=Grow.keep _ _
      obtain ⟨r',a',b',d'⟩:=join_R (t:=r.2.keep z) (x:=r.1) (y:=z) (H:=H) (l0:=repL l0 i.toNat m) (l1:=l1) b1'.inv (by omega) (by rw [List.length_append];omega) (fun e=>by
        obtain ⟨t',z1,z2⟩:=d e
        exact ⟨⟨t',z1.grow gk,z2⟩,_,(r1.grow b.grow).grow gk, .inr b1⟩) (fun hr0=>by
        have e:r.2.e=0:=Classical.byContradiction fun e=>hr0 (b.bad e)
        obtain ⟨t',u,v⟩:=d e
        rcases v with ⟨rfl, -⟩|v
        · exact absurd u.zero hr0
        · exact ⟨t',_,u.grow gk,v,by omega⟩) (fun _=>⟨_,_,(r1.grow b.grow).grow gk,b1,by omega⟩)
      refine ⟨r',a',(b1'.trans b').mono (by rw [List.length_append];omega),fun e=> ?_⟩
      rw [repL_left _ _ _ _ (by omega)]
      exact d' e
theorem lInsOne_ok {n i:Int} {x y:Int×Int} (hx:ItOk x) (hn:n≠0):OneOk (lInsOne n i x) y (if i=n then [y,x] else [x,y]) 4:=by
  intro s H h t hI hH hr ht hc
  unfold lInsOne
  dsimp only
  rw [if_neg hn]
  obtain ⟨n1,s1⟩:=item_T (t:=⟨s,0⟩) (H:=H) hI (by omega) hx
  generalize Tb.item ⟨s,0⟩ x=r at n1 s1⊢
  have hh:=hr.has (hr.ne_ofL ht)
  have hne:=hr.ne_ofL ht
  have hl:r.2.s.cnt h≠0:=hI.live n1.inv n1.grow (fun x=>by rw [List.count_cons];omega) hc
  have n2:=n1.keepR (x:=h) (by omega) (fun _=>hl)
  have gk:Grow r.2.s (r.2.keep h).s:=Grow.keep _ _
  have hry:Rep (r.2.keep h).s h t:=(hr.grow n1.grow).grow gk
  have hrx:r.1≠0→ ∃t' l',Rep (r.2.keep h).s r.1 t'∧ListT t' l'∧l'.length≤9000:=fun hr0=>by
    have e:r.2.e=0:=Classical.byContradiction fun e=>hr0 (n1.bad e)
    obtain ⟨t',u,v⟩:=s1 e
    exact ⟨t',_,u.grow gk,v,by simp⟩
  have hryy:h≠0→ ∃t' l',Rep (r.2.keep h).s h t'∧ListT t' l'∧l'.length≤9000:=fun _=>⟨t,_,hry,ht,by simp⟩
  by_cases hin:i=n
  · rw [if_pos hin,if_pos hin]
    obtain ⟨r',a',b',d'⟩:=join_R (t:=r.2.keep h) (x:=h) (y:=r.1) (H:=H) (l0:=[y]) (l1:=[x]) n2.inv.swap (by omega) (by simp) (fun e=>by
      obtain ⟨t',u,v⟩:=s1 e
      exact ⟨⟨_,hry, .inr ht⟩,t',u.grow gk, .inr v⟩) hryy hrx
    exact ⟨r',a',(n2.trans b').mono (by omega),d'⟩
  · rw [if_neg hin,if_neg hin]
    obtain ⟨r',a',b',d'⟩:=join_R (t:=r.2.keep h) (x:=r.1) (y:=h) (H:=H) (l0:=[x]) (l1:=[y]) n2.inv (by omega) (by simp) (fun e=>by
      obtain ⟨t',u,v⟩:=s1 e
      exact ⟨⟨t',u.grow gk, .inr v⟩,_,hry, .inr ht⟩) hrx hryy
    exact ⟨r',a',(n2.trans b').mono (by omega),d'⟩
theorem repL_last (l:List (Int×Int)) (x y:Int×Int) (hy:l[l.length - 1]? =some y):repL l (l.length - 1) [y,x]=insA l l.length x:=by
  obtain ⟨h1,h2⟩:=List.getElem?_eq_some_iff.1 hy
  unfold repL insA
  rw [List.take_length,List.drop_length,List.drop_of_length_le (by omega)]
  have:l.take (l.length - 1)++[y]=l:=by
    have:=List.take_append_getElem h1
    rw [h2,show l.length - 1+1=l.length by omega,List.take_length] at this
    exact this
  show l.take (l.length - 1)++([y]++[x])=l++[x]
  rw [←List.append_assoc,this]
theorem repL_ins (l:List (Int×Int)) (i:Nat) (x y:Int×Int) (hy:l[i]? =some y):repL l i [x,y]=insA l i x:=by
  obtain ⟨h1,h2⟩:=List.getElem?_eq_some_iff.1 hy
  unfold repL insA
  rw [List.drop_eq_getElem_cons h1,h2];rfl
theorem lInsert_R {s : Ar} {H : List Int} (hI : Inv s H) (hH : H.length ≤ 900000) {h : Int} {l : List (Int × Int)} (hb : LR s h l) (i : Int) {x : Int × Int} (hx : ItOk x) (h0 : 0 ≤ i) (hi : i ≤ l.length) :
    ∃r,lInsert s h i x=some r∧Rs s r H (3*l.length+4) fun t=>ListR t (insA l i.toNat x):=by
  have hs:=hb.short
  have hm:lMay x i (lLen s h)=0:=by
    unfold lMay
    rw [hb.len hI,if_neg (by have:=hx.1;have:=hx.2;omega),if_neg (by omega)]
  unfold lInsert
  rw [if_pos hm,hb.len hI]
  rcases hb.cases with ⟨rfl,rfl⟩|⟨t,h1,h2,h3⟩
  · obtain ⟨n1,s1⟩:=item_T (t:=⟨s,0⟩) (H:=H) hI (by omega) hx
    have e1:Tb.change (lInsOne ((([]:List (Int×Int)).length:Nat):Int) i x) rounds ⟨s,0⟩ 0 (imin i (imax (wrap64 ((([]:List (Int×Int)).length:Nat) - 1)) 0))=some (Tb.item ⟨s,0⟩ x):=by
      rw [show rounds=9999+1 from rfl]
      unfold Tb.change
      rw [if_pos (.inl (lIs_zero s))]
      unfold lInsOne
      dsimp only
      rw [if_pos (by rfl)]
    rw [e1]
    refine ⟨_,rfl,(told_rs n1 fun e=> ?_).mono (by omega)⟩
    obtain ⟨t',a,b⟩:=s1 e
    have:i.toNat=0:=by simp at hi;omega
    refine ⟨t',a, .inr ?_⟩
    rw [this];exact b
  · have hp:=h2.pos
    have hmn:imin i (imax (wrap64 ((l.length:Int) - 1)) 0)=if i=l.length then (l.length:Int) - 1 else i:=by
      rw [w64 (by omega) (by omega)]
      unfold imin imax
      rw [if_neg (show¬(l.length:Int) - 1<0 by omega)]
      split<;>split<;>omega
    rw [hmn]
    obtain ⟨y,hy⟩: ∃y,l[(if i=l.length then (l.length:Int) - 1 else i).toNat]? =some y:=⟨_,List.getElem?_eq_getElem (by split<;>omega)⟩
    obtain ⟨r,a,b,c⟩:=change_T (lInsOne_ok (n:=l.length) (i:=i) (y:=y) hx (by omega)) (by split<;>simp) h2 (k:=rounds) hI h1 h3 (by omega) (by unfold rounds;omega) (by omega) (by split<;>omega) hy
    rw [a]
    refine ⟨_,rfl,(told_rs b fun e=> ?_).mono (by omega)⟩
    obtain ⟨t',u,v⟩:=c e
    refine ⟨t',u,?_⟩
    by_cases hl:i=l.length
    · rw [if_pos hl,if_pos hl,show ((l.length:Int) - 1).toNat=l.length - 1 by omega] at v
      rw [if_pos hl,show ((l.length:Int) - 1).toNat=l.length - 1 by omega] at hy
      rw [repL_last l x y hy] at v
      rw [show i.toNat=l.length by omega];exact v
    · rw [if_neg hl,if_neg hl] at v
      rw [if_neg hl] at hy
      rw [repL_ins l _ x y hy] at v
      exact v
end
section
open Go.RowKit
def symOk (x:Int):Bool:=decide (1≤x)&&decide (x<257)
def symU (x:Int):UInt8:=UInt8.ofNat (x - 1).toNat
def textL:Nat→Ar→Int→Int→List UInt8→Option (List UInt8)
  | 0,_,_,_,_=>none
  | k+1,s,root,row,b=>
    (wGet s (vOf s root).wave row).bind fun x=>(vNext s root row).bind fun y=>
    if y.2&&decide ((if symOk x.1 then b++[symU x.1] else b).length≤40) then textL k s root y.1 (if symOk x.1 then b++[symU x.1] else b) else some (if symOk x.1 then b++[symU x.1] else b)
def pText (s:Ar) (root id:Int):Option (List UInt8×Bool):=
  (tPlace s (vOf s root).table id).bind fun p=>if p.2 then (textL rounds s root p.1 []).map fun b=>(b.reverse,true) else some ([],false)
def partOf (t:List UInt8×Bool) (a b:Int):List UInt8×Int:=
  if t.2=false then ([],4) else if a<0∨b<a∨(t.1.length:Int)<b then ([],3) else ((t.1.take b.toNat).drop a.toNat,0)
def pPart (s:Ar) (root id a b:Int):Option (List UInt8×Int):=(pText s root id).map fun t=>partOf t a b
def pAll (s:Ar) (root:Int):Option (List (Int×Int)):=lAll s (vOf s root).table
def stepOf (b:UInt8) (z:Int×Int):Int×Int:=
  if b.toNat % 4=0 then (z.1+1,z.2) else if b.toNat % 4=1 then (z.1,z.2+1) else if b.toNat % 4=2 then (z.1 - 1,z.2) else (z.1,z.2 - 1)
def walkOf (l:List UInt8):Int×Int:=l.foldl (fun z b=>stepOf b z) (0,0)
end
section
open Go.RowKit
abbrev Docs:=List (Int×List UInt8)
abbrev txt (ds:Docs):List (List UInt8):=ds.map (·.2)
def symsM (ts:List (List UInt8)):List Int:=(refSorted ts).map (symOf ts)
def mkR (rate:Int) (r:Nat×Nat):Bool:=decide ((r.2:Int) % rate=0)
def spR (ds:Docs) (r:Nat×Nat):Int×Int:=((ds.getD r.1 (0,[])).1,(r.2:Int))
def marksM (rate:Int) (ts:List (List UInt8)):List Bool:=(refSorted ts).map (mkR rate)
def spotsM (rate:Int) (ds:Docs):List (Int×Int):=((refSorted (txt ds)).filter (mkR rate)).map (spR ds)
def vCheck (s:Ar) (h rate:Int) (ds:Docs):Option Bool:=
  if vIs s h=true∧1≤rate∧rate≤16 then
    if refRight (txt ds)=true then
      (lAll s (vOf s h).table).bind fun a=>if a.length≤50000 then (if a==docsM ds then
        (wAll s (vOf s h).wave).bind fun b=>if b.length≤50000 then (if b==symsM (txt ds) then
          (bAll s (vOf s h).marks).bind fun c=>if c.length≤50000 then (if c==marksM rate (txt ds) then
            (lAll s (vOf s h).spots).bind fun d=>if d.length≤50000 then some (d==spotsM rate ds) else none
           else some false) else none
         else some false) else none
       else some false) else none
    else some false
  else some false
end
section
open Go.RowKit
def rowW (X:List (Int×Int×Int)):List Int:=X.map (·.2.2)
def mkd (rate:Int) (x:Int×Int×Int):Bool:=decide (x.2.1 % rate=0)
def rowM (rate:Int) (X:List (Int×Int×Int)):List Bool:=X.map (mkd rate)
def rowS (rate:Int) (X:List (Int×Int×Int)):List (Int×Int):=(X.filter (mkd rate)).map fun x=>(x.1,x.2.1)
def VT (t:Tr) (X:List (Int×Int×Int)) (D:List (Int×Int)) (rate:Int):Prop:=
  ∃tw tm tsp tt,t= .nd 6 0 0 tw tm tsp tt∧WaveT 9 tw (rowW X)∧BitsR tm (rowM rate X)∧ListR tsp (rowS rate X)∧ListR tt D
structure VR (s:Ar) (h:Int) (ds:Docs) (rate:Int):Prop where
  ex:(h=0∧ds=[])∨ ∃t,Rep s h t∧VT t (rowsM ds) (docsM ds) rate
  live:h≠0→s.cnt h≠0
structure Right (ds:Docs):Prop where
  right:refRight (txt ds)=true
  id: ∀d∈ds,1≤d.1∧d.1<9223372036854775808
  nodup:(ds.map (·.1)).Nodup
theorem rowsM_nil:rowsM []=[]:=by
  unfold rowsM
  have:refSorted (([]:Docs).map (·.2))=[]:=by
    unfold refSorted;split
    · rfl
    · rfl
  rw [this];rfl
theorem rowsM_length (ds:Docs):(rowsM ds).length=(refSorted (txt ds)).length:=by unfold rowsM;rw [List.length_map]
theorem rowsM_small (ds:Docs):(rowsM ds).length≤500:=by rw [rowsM_length];exact sorted_small _
theorem rowW_sy (ds:Docs):Sy (rowW (rowsM ds)):=fun x hx=>by
  unfold rowW rowsM at hx
  rw [List.map_map] at hx
  obtain ⟨r, -,rfl⟩:=List.mem_map.1 hx
  exact sym_bound r
theorem symsM_eq (ds:Docs):symsM (txt ds)=rowW (rowsM ds):=by unfold symsM rowW rowsM;rw [List.map_map];rfl
theorem marksM_eq (rate:Int) (ds:Docs):marksM rate (txt ds)=rowM rate (rowsM ds):=by unfold marksM rowM rowsM;rw [List.map_map];rfl
theorem spotsM_eq (rate:Int) (ds:Docs):spotsM rate ds=rowS rate (rowsM ds):=by unfold spotsM rowS rowsM;rw [List.filter_map,List.map_map];rfl
theorem rowS_length (rate:Int) (X:List (Int×Int×Int)):(rowS rate X).length≤X.length:=by
  unfold rowS;rw [List.length_map];exact List.length_filter_le _ _
theorem Right.len {ds:Docs} (h:Right ds):ds.length≤10:=by have:=(right_len h.right).1;simpa using this
theorem VR.parts {s : Ar} {H : List Int} (hI : Inv s H) {h : Int} {ds : Docs} {rate : Int} (hv : VR s h ds rate) (hd : ds.length ≤ 1000) :
    WR s 9 (vOf s h).wave (rowW (rowsM ds))∧BR s (vOf s h).marks (rowM rate (rowsM ds))∧LR s (vOf s h).spots (rowS rate (rowsM ds))∧LR s (vOf s h).table (docsM ds)∧vIs s h=true:=by
  have hn:=rowsM_small ds
  have hsl:=rowS_length rate (rowsM ds)
  rcases hv.ex with ⟨rfl,rfl⟩|⟨t,hr,tw,tm,tsp,tt,rfl,h1,h2,h3,h4⟩
  · have hz:vOf s 0=Parts.zero:=by unfold vOf;rw [if_neg (fun h=>h.1 rfl)]
    rw [hz,rowsM_nil]
    exact ⟨⟨⟨.nil, .nil, .nil⟩,fun h=>absurd rfl h,by simp [rowW],fun x hx=>by simp [rowW] at hx⟩,⟨⟨.nil, .nil, .inl ⟨rfl,rfl⟩⟩,fun h=>absurd rfl h,by simp [rowM]⟩,⟨⟨.nil, .nil, .inl ⟨rfl,rfl⟩⟩,fun h=>absurd rfl h,by simp [rowS]⟩,⟨⟨.nil, .nil, .inl ⟨rfl,rfl⟩⟩,fun h=>absurd rfl h,by simp [docsM]⟩,by simp [vIs]⟩
  · have hne:=hr.ne
    obtain ⟨k0,k1,k2,k3,hh,hg,r0,r1,r2,r3⟩:=hr.get
    obtain ⟨c0,c1,c2,c3⟩:=hI.kids_of hh hg
    have hvi:vIs s h=true:=by
      unfold vIs
      rw [hh,hg]
      simp [hv.live hne]
    have hz:vOf s h=⟨k0,k1,k2,k3⟩:=by unfold vOf;rw [if_pos ⟨hne,hvi⟩,hg]
    rw [hz]
    exact ⟨⟨⟨_,r0,h1⟩,c0,by simp [rowW];omega,rowW_sy ds⟩,⟨⟨_,r1,h2⟩,c1,by simp [rowM];omega⟩,⟨⟨_,r2,h3⟩,c2,by omega⟩,⟨⟨_,r3,h4⟩,c3,by simp [docsM];omega⟩,hvi⟩
theorem VR.rows {s:Ar} {H:List Int} (hI:Inv s H) {h:Int} {ds:Docs} {rate:Int} (hv:VR s h ds rate) (hd:ds.length≤1000):vRows s h=(rowsM ds).length:=by
  unfold vRows
  rw [(hv.parts hI hd).1.len hI];simp [rowW]
theorem VR.docs {s:Ar} {H:List Int} (hI:Inv s H) {h:Int} {ds:Docs} {rate:Int} (hv:VR s h ds rate) (hd:ds.length≤1000):vDocs s h=ds.length:=by
  unfold vDocs
  rw [(hv.parts hI hd).2.2.2.1.len hI];simp [docsM]
theorem VR.all {s:Ar} {H:List Int} (hI:Inv s H) {h:Int} {ds:Docs} {rate:Int} (hv:VR s h ds rate) (hd:ds.length≤1000):lAll s (vOf s h).table=some (docsM ds):=(hv.parts hI hd).2.2.2.1.all hI
def nextL (l:List Int) (i:Int):Int×Bool:=
  if i<0∨(l.length:Int)≤i then (0,false)
  else if l.getD i.toNat 0=0 then (0,false)
  else ((((l.countP fun y=>decide (y<l.getD i.toNat 0))+(l.take i.toNat).count (l.getD i.toNat 0):Nat):Int),true)
theorem VR.next {s:Ar} {H:List Int} (hI:Inv s H) {h:Int} {ds:Docs} {rate:Int} (hv:VR s h ds rate) (hd:ds.length≤1000) (i:Int):vNext s h i=some (nextL (rowW (rowsM ds)) i):=by
  have hw:=(hv.parts hI hd).1
  have hn:(rowW (rowsM ds)).length≤500:=by have:=rowsM_small ds;simp [rowW];omega
  generalize rowW (rowsM ds)=l at hw hn⊢
  unfold vNext nextL
  rw [hw.get hI]
  by_cases hi:i<0∨(l.length:Int)≤i
  · rw [if_pos hi,if_pos hi,Option.bind_some,if_pos (.inl rfl)]
  · rw [if_neg hi,if_neg hi,Option.bind_some]
    have hmem:l.getD i.toNat 0∈l:=by
      rw [List.getD_eq_getElem?_getD,List.getElem?_eq_getElem (by omega)]
      exact List.getElem_mem _
    obtain ⟨h0,h1⟩:=hw.sy _ hmem
    generalize l.getD i.toNat 0=c at h0 h1⊢
    dsimp only
    by_cases hc:c=0
    · rw [if_pos (.inr hc),if_pos hc]
    · rw [if_neg (by simp [hc]),if_neg hc,hw.before hI ⟨h0,h1⟩,Option.bind_some,hw.rank hI ⟨h0,h1⟩ i (by omega) (by omega),Option.bind_some]
      have a1:=List.countP_le_length (p:=fun y=>decide (y<c)) (l:=l)
      have a2:=List.count_le_length (a:=c) (l:=l.take i.toNat)
      rw [List.length_take] at a2
      rw [w64 (by omega) (by omega)]
      congr 2
theorem right_all {ds:Docs} (h:Right ds):refSorted (txt ds)=all (txt ds):=by unfold refSorted;rw [if_pos h.right];rfl
theorem rowW_all {ds:Docs} (h:Right ds):rowW (rowsM ds)=(all (txt ds)).map (symOf (txt ds)):=by
  unfold rowW rowsM
  show List.map _ (List.map _ (refSorted (txt ds)))=_
  rw [right_all h,List.map_map];rfl
theorem next_at {ds : Docs} (h : Right ds) {d a : Nat} {t : List UInt8} (ht : (txt ds)[d]? = some t) (ha : a < t.length) :
    nextL (rowW (rowsM ds)) ((below (txt ds) (d,a+1) (all (txt ds)):Nat):Int)=(((below (txt ds) (d,a) (all (txt ds)):Nat):Int),true):=by
  have hm:=all_mem ht (show a+1≤t.length by omega)
  have hat:=srt_at (all_srt (txt ds)) hm
  have hlen:=(List.getElem?_eq_some_iff.1 hat).1
  obtain ⟨x,hx⟩:=at_some ha
  have hs:=sym_succ ht hx
  rw [rowW_all h,lf_all ht ha]
  unfold nextL
  rw [List.length_map,if_neg (by omega),Int.toNat_natCast,List.getD_eq_getElem?_getD,List.getElem?_map,hat]
  simp only [Option.map_some,Option.getD_some]
  rw [if_neg (by rw [hs];omega)]
theorem next_end {ds : Docs} (h : Right ds) {d : Nat} {t : List UInt8} (ht : (txt ds)[d]? = some t) :
    nextL (rowW (rowsM ds)) ((below (txt ds) (d,0) (all (txt ds)):Nat):Int)=(0,false):=by
  have hm:=all_mem ht (show 0≤t.length by omega)
  have hat:=srt_at (all_srt (txt ds)) hm
  have hlen:=(List.getElem?_eq_some_iff.1 hat).1
  rw [rowW_all h]
  unfold nextL
  rw [List.length_map,if_neg (by omega),Int.toNat_natCast,List.getD_eq_getElem?_getD,List.getElem?_map,hat]
  simp only [Option.map_some,Option.getD_some]
  rw [if_pos (sym_zero d)]
theorem vr_get_at {s : Ar} {H : List Int} (hI : Inv s H) {h : Int} {ds : Docs} {rate : Int} (hv : VR s h ds rate) (hR : Right ds) {d a : Nat} {t : List UInt8} (ht : (txt ds)[d]? = some t) (ha : a ≤ t.length) :
    wGet s (vOf s h).wave ((below (txt ds) (d,a) (all (txt ds)):Nat):Int)=some (symOf (txt ds) (d,a),true):=by
  have hm:=all_mem ht ha
  have hat:=srt_at (all_srt (txt ds)) hm
  have hlen:=(List.getElem?_eq_some_iff.1 hat).1
  rw [((hv.parts hI (by have:=hR.len;omega)).1).get hI,rowW_all hR,List.length_map,if_neg (by omega),Int.toNat_natCast,List.getD_eq_getElem?_getD,List.getElem?_map,hat];rfl
theorem symU_succ (x:UInt8):symOk ((x.toNat:Int)+1)=true∧symU ((x.toNat:Int)+1)=x:=by
  have:=x.toNat_lt
  constructor
  · unfold symOk;simp;omega
  · unfold symU
    rw [show ((x.toNat:Int)+1 - 1).toNat=x.toNat by omega];simp
theorem textL_T {s : Ar} {H : List Int} (hI : Inv s H) {h : Int} {ds : Docs} {rate : Int} (hv : VR s h ds rate) (hR : Right ds) {d : Nat} {t : List UInt8} (ht : (txt ds)[d]? = some t) :
    ∀(a:Nat) (k:Nat) (b:List UInt8),a≤t.length→a<k→b=(t.drop a).reverse→textL k s h ((below (txt ds) (d,a) (all (txt ds)):Nat):Int) b=some t.reverse
  | 0,k,b,ha,hk,hb=>by
    obtain ⟨k,rfl⟩: ∃j,k=j+1:=⟨k - 1,by omega⟩
    unfold textL
    rw [vr_get_at hI hv hR ht ha,Option.bind_some,hv.next hI (by have:=hR.len;omega),next_end hR ht,Option.bind_some,sym_zero]
    simp [symOk,hb]
  | a+1,k,b,ha,hk,hb=>by
    obtain ⟨k,rfl⟩: ∃j,k=j+1:=⟨k - 1,by omega⟩
    obtain ⟨x,hx⟩:=at_some (show a<t.length by omega)
    have ht40:=(right_len hR.right).2 d
    rw [getD_at ht] at ht40
    have hb':b++[x]=(t.drop a).reverse:=by rw [hb,drop_at hx];simp
    have hbl:(b++[x]).length≤40:=by rw [hb',List.length_reverse,List.length_drop];omega
    unfold textL
    rw [vr_get_at hI hv hR ht ha,Option.bind_some,hv.next hI (by have:=hR.len;omega),next_at hR ht (by omega),Option.bind_some,sym_succ ht hx]
    dsimp only
    rw [(symU_succ x).1,(symU_succ x).2,if_pos rfl,if_pos (by simp only [Bool.true_and,decide_eq_true_eq];exact hbl)]
    exact textL_T hI hv hR ht a k (b++[x]) (by omega) (by omega) hb'
def placeD (ds:Docs) (id:Int):Option Nat:=ds.findIdx? fun d=>d.1==id
theorem placeIn_T (id:Int): ∀(ds:Docs) (i:Nat),placeIn id (docsM ds) i=match placeD ds id with|none=>(0,false)|some k=>(((i+k:Nat):Int),true)
  | [],i=>rfl
  | d::ds,i=>by
    unfold docsM placeD
    rw [List.map_cons,List.findIdx?_cons]
    unfold placeIn
    dsimp only
    by_cases e:d.1=id
    · rw [if_pos e,if_pos (by simp [e])];rfl
    · rw [if_neg e,if_neg (by simp [e])]
      have:=placeIn_T id ds (i+1)
      unfold docsM placeD at this
      rw [show ((i:Int)+1)=((i+1:Nat):Int) by omega,this]
      cases List.findIdx? (fun d=>d.1==id) ds with
      | none=>rfl
      | some k=>simp;omega
theorem VR.place {s : Ar} {H : List Int} (hI : Inv s H) {h : Int} {ds : Docs} {rate : Int} (hv : VR s h ds rate) (hd : ds.length ≤ 1000) (id : Int) :
    tPlace s (vOf s h).table id=some (match placeD ds id with|none=>(0,false)|some k=>((k:Int),true)):=by
  unfold tPlace
  rw [hv.all hI hd,Option.map_some]
  have:=placeIn_T id ds 0
  rw [show ((0:Nat):Int)=0 from rfl] at this
  rw [this]
  cases placeD ds id with
  | none=>rfl
  | some k=>simp
theorem placeD_some {ds:Docs} {id:Int} {k:Nat} (h:placeD ds id=some k): ∃t,ds[k]? =some (id,t):=by
  unfold placeD at h
  obtain ⟨h1,h2, -⟩:=List.findIdx?_eq_some_iff_getElem.1 h
  refine ⟨ds[k].2,?_⟩
  rw [List.getElem?_eq_getElem h1]
  simp only [beq_iff_eq] at h2
  rw [←h2]
theorem VR.text {s : Ar} {H : List Int} (hI : Inv s H) {h : Int} {ds : Docs} {rate : Int} (hv : VR s h ds rate) (hR : Right ds) (id : Int) :
    pText s h id=some (match placeD ds id with|none=>([],false)|some k=>((ds.getD k (0,[])).2,true)):=by
  unfold pText
  rw [hv.place hI (by have:=hR.len;omega),Option.bind_some]
  cases hp:placeD ds id with
  | none=>rfl
  | some k=>
    obtain ⟨t,ht⟩:=placeD_some hp
    have htx:(txt ds)[k]? =some t:=by rw [List.getElem?_map,ht];rfl
    have he:=end_all htx
    have hT:=textL_T hI hv hR htx t.length rounds [] (Nat.le_refl _) (by have:=(right_len hR.right).2 k;rw [getD_at htx] at this;unfold rounds;omega) (by simp)
    rw [he] at hT
    dsimp only
    rw [if_pos rfl,hT,Option.map_some]
    simp [List.getD,ht]
end
section
open Go.RowKit
def HasW (s:Ar) (h:Int) (l:List Int):Prop:= ∃t,Rep s h t∧WaveT 9 t l
def HasB (s:Ar) (h:Int) (l:List Bool):Prop:= ∃t,Rep s h t∧BitsR t l
def HasL (s:Ar) (h:Int) (l:List (Int×Int)):Prop:= ∃t,Rep s h t∧ListR t l
theorem HasW.grow {s s':Ar} {h:Int} {l:List Int} (hg:Grow s s') (x:HasW s h l):HasW s' h l:=by obtain ⟨t,a,b⟩:=x;exact ⟨t,a.grow hg,b⟩
theorem HasB.grow {s s':Ar} {h:Int} {l:List Bool} (hg:Grow s s') (x:HasB s h l):HasB s' h l:=by obtain ⟨t,a,b⟩:=x;exact ⟨t,a.grow hg,b⟩
theorem HasL.grow {s s':Ar} {h:Int} {l:List (Int×Int)} (hg:Grow s s') (x:HasL s h l):HasL s' h l:=by obtain ⟨t,a,b⟩:=x;exact ⟨t,a.grow hg,b⟩
theorem HasW.stay {s s':Ar} {h:Int} {l:List Int} {H:List Int} (hs:Stay s s' H) (hh:h∈H) (x:HasW s h l):HasW s' h l:=by obtain ⟨t,a,b⟩:=x;exact ⟨t,a.held hs hh,b⟩
theorem HasB.stay {s s':Ar} {h:Int} {l:List Bool} {H:List Int} (hs:Stay s s' H) (hh:h∈H) (x:HasB s h l):HasB s' h l:=by obtain ⟨t,a,b⟩:=x;exact ⟨t,a.held hs hh,b⟩
theorem HasL.stay {s s':Ar} {h:Int} {l:List (Int×Int)} {H:List Int} (hs:Stay s s' H) (hh:h∈H) (x:HasL s h l):HasL s' h l:=by obtain ⟨t,a,b⟩:=x;exact ⟨t,a.held hs hh,b⟩
theorem nextA_T {s : Ar} {H1 H2 : List Int} {h : Int} {r : Int × Int × Ar} {c : Nat} {P : Tr → Prop} (ok : Bool) (hr : Rs s r (H1 ++ h :: H2) c P) :
    Inv (nextA ok h r).2.2 (H1++(nextA ok h r).1::H2)∧Grow s (nextA ok h r).2.2∧(nextA ok h r).2.2.busyN≤s.busyN+c∧
    (((nextA ok h r).2.1=ok∧ ∃t',Rep (nextA ok h r).2.2 (nextA ok h r).1 t'∧P t')∨((nextA ok h r).2.1=false∧(nextA ok h r).1=h∧s.size<s.busyN+c)):=by
  unfold nextA
  rcases hr.res with ⟨e,t',a,b⟩|⟨e,e1,e2⟩
  · rw [if_pos e]
    dsimp only
    have hd:(if h=0 then r.2.2 else r.2.2.drop h)=r.2.2.drop h:=by
      split
      · rename_i q;rw [q,drop_zero]
      · rfl
    rw [hd]
    have hp:Inv r.2.2 (h::(H1++r.1::H2)):=hr.inv.perm (by
      refine (List.Perm.cons _ List.perm_middle).trans ?_
      refine (List.Perm.swap _ _ _).trans (List.Perm.cons _ ?_)
      exact List.perm_middle.symm)
    have hg:=Grow.drop r.2.2 h
    exact ⟨hp.drop,hr.grow.trans hg,by rw [busyN_drop];exact hr.cost, .inl ⟨rfl,t',a.grow hg,b⟩⟩
  · rw [if_neg (by omega)]
    dsimp only
    have:=hr.inv
    rw [e1] at this
    exact ⟨this.tail_zero,hr.grow,hr.cost, .inr ⟨rfl,rfl,e2⟩⟩
structure Bp (b:Bst) (lw:List Int) (lm:List Bool) (ls lt:List (Int×Int)):Prop where
  inv:Inv b.s [b.p.wave,b.p.marks,b.p.spots,b.p.table]
  w:HasW b.s b.p.wave lw
  m:HasB b.s b.p.marks lm
  sp:HasL b.s b.p.spots ls
  t:HasL b.s b.p.table lt
  sy:Sy lw
theorem Bp.wr {b:Bst} {lw:List Int} {lm:List Bool} {ls lt:List (Int×Int)} (h:Bp b lw lm ls lt) (hl:lw.length≤9000):WR b.s 9 b.p.wave lw:=⟨h.w,fun h0=>h.inv.pos (by simp) h0,hl,h.sy⟩
theorem Bp.busy {b:Bst} {lw:List Int} {lm:List Bool} {ls lt:List (Int×Int)} (h:Bp b lw lm ls lt) (hw:b.s.wait=[]):8*b.s.busyN≤2040+39*lw.length+lm.length+16*ls.length+16*lt.length:=by
  obtain ⟨t1,a1,b1⟩:=h.w
  obtain ⟨t2,a2,b2⟩:=h.m
  obtain ⟨t3,a3,b3⟩:=h.sp
  obtain ⟨t4,a4,b4⟩:=h.t
  have:=h.inv.busy_le hw (T:=[t1,t2,t3,t4]) ⟨a1,a2,a3,a4,trivial⟩
  simp only [sizes,List.map_cons,List.map_nil,List.sum_cons,List.sum_nil] at this
  have:=b1.size;have:=b2.size;have:=b3.size;have:=b4.size
  omega
theorem sy_ins {l:List Int} (h:Sy l) (i:Nat) {x:Int} (hx:0≤x∧x<257):Sy (insA l i x):=fun y hy=>by
  unfold insA at hy
  rcases List.mem_append.1 hy with hy|hy
  · exact h y (List.mem_of_mem_take hy)
  · rcases List.mem_cons.1 hy with rfl|hy
    · exact hx
    · exact h y (List.mem_of_mem_drop hy)
theorem insA_end {α:Type} (l:List α) (x:α):insA l l.length x=l++[x]:=by unfold insA;simp
theorem insL_end (l:List Bool) (x:Bool):insL l l.length x=l++[x]:=by unfold insL;simp
def XOk (x:Int×Int×Int):Prop:=(1≤x.1∧x.1<9223372036854775808)∧(0≤x.2.1∧x.2.1≤1000)∧0≤x.2.2∧x.2.2<257
theorem bStep_T {b : Bst} {lw : List Int} {lm : List Bool} {ls lt : List (Int × Int)} (h : Bp b lw lm ls lt) (rate : Int) {x : Int × Int × Int} (hx : XOk x)
    (hlw:lw.length≤600) (hlm:lm.length=lw.length) (hls:ls.length≤lw.length) (hn:b.n=ls.length) (hok:b.ok=true):
    ∃b',bStep rate (lw.length:Int) x b=some b'∧b'.s.wait=[]∧b'.s.size=b.s.size∧b'.p.table=b.p.table∧
      ((b'.ok=true∧Bp b' (lw++[x.2.2]) (lm++[mkd rate x]) (if mkd rate x then ls++[(x.1,x.2.1)] else ls) lt∧b'.n=(if mkd rate x then ls++[(x.1,x.2.1)] else ls).length)∨
       (b'.ok=false∧b.s.size<b.s.busyN+13*lw.length+50∧ ∃lw' lm' ls',Bp b' lw' lm' ls' lt)):=by
  have hb:=h.wr (by omega)
  obtain ⟨r1,e1,R1⟩:=wInsert_R h.inv (by simp) hb (lw.length:Int) x.2.2 (by omega) (by omega) ⟨hx.2.2.1,hx.2.2.2⟩
  rw [Int.toNat_natCast,insA_end] at R1
  obtain ⟨i1,g1,c1,q1⟩:=nextA_T (H1:=[]) (H2:=[b.p.marks,b.p.spots,b.p.table]) b.ok R1
  obtain ⟨lw1,hw1,sy1,ql1⟩: ∃lw1,HasW (nextA b.ok b.p.wave r1).2.2 (nextA b.ok b.p.wave r1).1 lw1∧Sy lw1∧(((nextA b.ok b.p.wave r1).2.1=true∧lw1=lw++[x.2.2])∨((nextA b.ok b.p.wave r1).2.1=false∧b.s.size<b.s.busyN+9*(lw.length+4))):=by
    rcases q1 with ⟨a,t',p,q⟩|⟨a,a1,a2⟩
    · exact ⟨lw++[x.2.2],⟨t',p,q⟩,by rw [←insA_end];exact sy_ins h.sy _ ⟨hx.2.2.1,hx.2.2.2⟩, .inl ⟨a.trans hok,rfl⟩⟩
    · exact ⟨lw,by rw [a1];exact h.w.grow g1,h.sy, .inr ⟨a,a2⟩⟩
  generalize hT1:nextA b.ok b.p.wave r1=t1 at*
  have hbm:BR t1.2.2 b.p.marks lm:=⟨h.m.grow g1,fun h0=>i1.pos (by simp) h0,by omega⟩
  obtain ⟨r2,e2,R2⟩:=bInsert_R i1 (by simp) hbm (lw.length:Int) (mkd rate x) (by omega) (by omega)
  rw [Int.toNat_natCast,←hlm,insL_end] at R2
  obtain ⟨i2,g2,c2,q2⟩:=nextA_T (H1:=[t1.1]) (H2:=[b.p.spots,b.p.table]) t1.2.1 R2
  obtain ⟨lm1,hm1,ql2⟩: ∃lm1,HasB (nextA t1.2.1 b.p.marks r2).2.2 (nextA t1.2.1 b.p.marks r2).1 lm1∧(((nextA t1.2.1 b.p.marks r2).2.1=t1.2.1∧lm1=lm++[mkd rate x])∨((nextA t1.2.1 b.p.marks r2).2.1=false∧t1.2.2.size<t1.2.2.busyN+(lm.length+3))):=by
    rcases q2 with ⟨a,t',p,q⟩|⟨a,a1,a2⟩
    · exact ⟨_,⟨t',p,q⟩, .inl ⟨a,rfl⟩⟩
    · exact ⟨lm,by rw [a1];exact h.m.grow (g1.trans g2), .inr ⟨a,a2⟩⟩
  generalize hT2:nextA t1.2.1 b.p.marks r2=t2 at*
  have hs1:=g1.size
  have hs2:=g2.size
  by_cases hk:x.2.1 % rate=0
  · have hmk:mkd rate x=true:=decide_eq_true hk
    have hbs:LR t2.2.2 b.p.spots ls:=⟨h.sp.grow (g1.trans g2),fun h0=>i2.pos (by simp) h0,by omega⟩
    obtain ⟨r3,e3,R3⟩:=lInsert_R i2 (by simp) hbs b.n (x:=(x.1,x.2.1)) ⟨⟨by have:=hx.1;dsimp only;omega,hx.1.2⟩,by have:=hx.2.1;dsimp only;omega⟩ (by omega) (by omega)
    rw [hn,Int.toNat_natCast,insA_end] at R3
    obtain ⟨i3,g3,c3,q3⟩:=nextA_T (H1:=[t1.1,t2.1]) (H2:=[b.p.table]) t2.2.1 R3
    obtain ⟨ls1,hsp1,ql3⟩: ∃ls1,HasL (nextA t2.2.1 b.p.spots r3).2.2 (nextA t2.2.1 b.p.spots r3).1 ls1∧(((nextA t2.2.1 b.p.spots r3).2.1=t2.2.1∧ls1=ls++[(x.1,x.2.1)])∨((nextA t2.2.1 b.p.spots r3).2.1=false∧t2.2.2.size<t2.2.2.busyN+(3*ls.length+4))):=by
      rcases q3 with ⟨a,t',p,q⟩|⟨a,a1,a2⟩
      · exact ⟨_,⟨t',p,q⟩, .inl ⟨a,rfl⟩⟩
      · exact ⟨ls,by rw [a1];exact h.sp.grow ((g1.trans g2).trans g3), .inr ⟨a,a2⟩⟩
    generalize hT3:nextA t2.2.1 b.p.spots r3=t3 at*
    obtain ⟨u,w1,w2,w3,w4,w5⟩:=i3.work (by simp) 1073741824
    have hs3:=g3.size
    have hus:=w3.size
    have hBp:Bp ⟨u.2,t3.2.1,⟨t1.1,t2.1,t3.1,b.p.table⟩,wrap64 (b.n+1)⟩ lw1 lm1 ls1 lt:=
      ⟨w2,(hw1.grow (g2.trans g3)).stay w3 (by simp),(hm1.grow g3).stay w3 (by simp),hsp1.stay w3 (by simp),(h.t.grow ((g1.trans g2).trans g3)).stay w3 (by simp),sy1⟩
    refine ⟨⟨u.2,t3.2.1,⟨t1.1,t2.1,t3.1,b.p.table⟩,wrap64 (b.n+1)⟩,?_,w5 (by omega),by dsimp only;omega,rfl,?_⟩
    · unfold bStep
      rw [e1,Option.bind_some]
      dsimp only
      rw [hT1,show decide (x.2.1 % rate=0)=mkd rate x from rfl,e2,Option.bind_some,hT2,if_pos hk,e3,Option.bind_some,hT3,w1];rfl
    · dsimp only
      rw [if_pos hmk]
      have hcs:=R1.cost
      rcases ql1 with ⟨o1,rfl⟩|⟨o1,f1⟩
      · rcases ql2 with ⟨o2,rfl⟩|⟨o2,f2⟩
        · rcases ql3 with ⟨o3,rfl⟩|⟨o3,f3⟩
          · exact .inl ⟨by rw [o3,o2,o1],hBp,by rw [hn,w64 (by omega) (by omega)];simp⟩
          · exact .inr ⟨o3,by omega,_,_,_,hBp⟩
        · refine .inr ⟨?_,by omega,_,_,_,hBp⟩
          rcases ql3 with ⟨o3, -⟩|⟨o3, -⟩
          · rw [o3,o2]
          · exact o3
      · refine .inr ⟨?_,by omega,_,_,_,hBp⟩
        have o2':t2.2.1=false:=by
          rcases ql2 with ⟨o2, -⟩|⟨o2, -⟩
          · rw [o2,o1]
          · exact o2
        rcases ql3 with ⟨o3, -⟩|⟨o3, -⟩
        · rw [o3,o2']
        · exact o3
  · have hmk: ¬mkd rate x=true:=fun h=>hk (of_decide_eq_true h)
    obtain ⟨u,w1,w2,w3,w4,w5⟩:=i2.work (by simp) 1073741824
    have hus:=w3.size
    have hBp:Bp ⟨u.2,t2.2.1,⟨t1.1,t2.1,b.p.spots,b.p.table⟩,b.n⟩ lw1 lm1 ls lt:=
      ⟨w2,(hw1.grow g2).stay w3 (by simp),hm1.stay w3 (by simp),(h.sp.grow (g1.trans g2)).stay w3 (by simp),(h.t.grow (g1.trans g2)).stay w3 (by simp),sy1⟩
    refine ⟨⟨u.2,t2.2.1,⟨t1.1,t2.1,b.p.spots,b.p.table⟩,b.n⟩,?_,w5 (by omega),by dsimp only;omega,rfl,?_⟩
    · unfold bStep
      rw [e1,Option.bind_some]
      dsimp only
      rw [hT1,show decide (x.2.1 % rate=0)=mkd rate x from rfl,e2,Option.bind_some,hT2,if_neg hk,w1];rfl
    · dsimp only
      rw [if_neg hmk]
      rcases ql1 with ⟨o1,rfl⟩|⟨o1,f1⟩
      · rcases ql2 with ⟨o2,rfl⟩|⟨o2,f2⟩
        · exact .inl ⟨by rw [o2,o1],hBp,hn⟩
        · exact .inr ⟨o2,by omega,_,_,_,hBp⟩
      · refine .inr ⟨?_,by omega,_,_,_,hBp⟩
        rcases ql2 with ⟨o2, -⟩|⟨o2, -⟩
        · rw [o2,o1]
        · exact o2
theorem bRows_T (rate : Int) : ∀ (l X : List (Int × Int × Int)) {b : Bst} {lt : List (Int × Int)}, Bp b (rowW X) (rowM rate X) (rowS rate X) lt → (∀ x ∈ X ++ l, XOk x) → (X ++ l).length ≤ 500 → b.n = (rowS rate X).length → b.ok = true → b.s.wait = [] →
    ∃b',bRows rate l (X.length:Int) b=some b'∧b'.s.wait=[]∧b'.s.size=b.s.size∧
      ((b'.ok=true∧Bp b' (rowW (X++l)) (rowM rate (X++l)) (rowS rate (X++l)) lt)∨
       (b'.ok=false∧8*b.s.size<2440+160*(X++l).length+16*lt.length∧ ∃lw' lm' ls',Bp b' lw' lm' ls' lt))
  | [],X,b,lt,h,_,_,_,hok,hw=>⟨b,rfl,hw,rfl, .inl ⟨hok,by simpa using h⟩⟩
  | x::l,X,b,lt,h,hX,hl,hn,hok,hw=>by
    unfold bRows
    rw [if_pos hok]
    have hsl:=rowS_length rate X
    have hlen:(X++x::l).length=X.length+(l.length+1):=by rw [List.length_append,List.length_cons]
    have hwl:(rowW X).length=X.length:=by unfold rowW;rw [List.length_map]
    have hml:(rowM rate X).length=X.length:=by unfold rowM;rw [List.length_map]
    have hbusy:=h.busy hw
    obtain ⟨b1,e1,w1,z1,p1,q1⟩:=bStep_T h rate (hX x (by simp)) (by omega) (by omega) (by omega) hn hok
    rw [hwl] at e1
    rw [e1,Option.bind_some]
    have hcat:X++x::l=(X++[x])++l:=by simp
    have r1:rowW (X++[x])=rowW X++[x.2.2]:=by unfold rowW;simp
    have r2:rowM rate (X++[x])=rowM rate X++[mkd rate x]:=by unfold rowM;simp
    have r3:rowS rate (X++[x])=if mkd rate x then rowS rate X++[(x.1,x.2.1)] else rowS rate X:=by
      unfold rowS
      rw [List.filter_append]
      by_cases hm:mkd rate x=true
      · rw [if_pos hm,List.filter_cons_of_pos hm];simp
      · rw [if_neg hm,List.filter_cons_of_neg hm];simp
    rcases q1 with ⟨o,hB,hn1⟩|⟨o,f,lw',lm',ls',hB⟩
    · rw [←r1,←r2,←r3] at hB
      rw [←r3] at hn1
      have hle:((X++[x]).length:Int)=(X.length:Int)+1:=by simp
      obtain ⟨b',e',w',z',q'⟩:=bRows_T rate l (X++[x]) hB (by rw [←hcat];exact hX) (by rw [←hcat];exact hl) hn1 o w1
      rw [hle] at e'
      rw [e']
      refine ⟨b',rfl,w',by omega,?_⟩
      rw [hcat]
      rcases q' with q'|⟨a,b2,c⟩
      · exact .inl q'
      · exact .inr ⟨a,by omega,c⟩
    · refine ⟨b1,?_,w1,z1, .inr ⟨o,by omega,lw',lm',ls',hB⟩⟩
      cases l with
      | nil=>rfl
      | cons y l=>unfold bRows;rw [if_neg (by rw [o];decide)]
end
section
open Go.RowKit
theorem placeIn_none (id:Int): ∀(l:List (Int×Int)) (i:Int),(∀y∈l,y.1≠id)→placeIn id l i=(0,false)
  | [],_,_=>rfl
  | x::l,i,h=>by
    unfold placeIn
    rw [if_neg (h x (by simp))]
    exact placeIn_none id l (i+1) fun y hy=>h y (by simp [hy])
theorem tAdd_R {s : Ar} {H : List Int} (hI : Inv s H) (hH : H.length ≤ 900000) {h : Int} {l : List (Int × Int)} (hb : LR s h l) {x : Int × Int} (hx : 1 ≤ x.1 ∧ x.1 < 9223372036854775808 ∧ 0 ≤ x.2 ∧ x.2 ≤ 40) (hn : ∀ y ∈ l, y.1 ≠ x.1) (hl : l.length ≤ 9) :
    ∃r,tAdd s h x.1 x.2=some r∧Rs s r H (3*l.length+4) fun t=>ListR t (l++[x]):=by
  unfold tAdd tPlace
  rw [hb.all hI,Option.map_some,Option.bind_some,placeIn_none x.1 l 0 hn,hb.len hI,if_neg (by simp;omega),if_neg (by omega)]
  obtain ⟨r,a,b⟩:=lInsert_R hI hH hb (l.length:Int) (x:=x) ⟨by omega,by omega⟩ (by omega) (by omega)
  rw [Int.toNat_natCast,insA_end] at b
  exact ⟨r,a,b⟩
def DOk (x:Int×Int):Prop:=1≤x.1∧x.1<9223372036854775808∧0≤x.2∧x.2≤40
theorem bTable_T : ∀ (l D : List (Int × Int)) {b : Bst} {lw : List Int} {lm : List Bool} {ls lt : List (Int × Int)}, Bp b lw lm ls lt → (∀ x ∈ D ++ l, DOk x) → ((D ++ l).map (·.1)).Nodup → (D ++ l).length ≤ 10 → (∀ y ∈ lt, y ∈ D) → lt.length ≤ D.length → (b.ok = true → lt = D) →
    ∃b' lt',bTable l b=some b'∧Bp b' lw lm ls lt'∧b'.s.size=b.s.size∧b'.s.busyN≤b.s.busyN+34*l.length∧b'.p.wave=b.p.wave∧b'.p.marks=b.p.marks∧b'.p.spots=b.p.spots∧lt'.length≤10∧
      ((b'.ok=true∧b.ok=true∧lt'=D++l)∨(b'.ok=false∧(b.ok=true→b.s.size<b.s.busyN+34*l.length)))
  | [],D,b,lw,lm,ls,lt,h,hx,hd,hl,h1,h2,h3=>by
    refine ⟨b,lt,rfl,h,rfl,by simp,rfl,rfl,rfl,by simp at hl;omega,?_⟩
    cases ho:b.ok with
    | true=>exact .inl ⟨rfl,rfl,by rw [h3 ho,List.append_nil]⟩
    | false=>exact .inr ⟨rfl,fun h=>by cases h⟩
  | x::l,D,b,lw,lm,ls,lt,h,hx,hd,hl,h1,h2,h3=>by
    rw [List.length_append,List.length_cons] at hl
    have hcat:D++x::l=(D++[x])++l:=by simp
    have hlr:LR b.s b.p.table lt:=⟨h.t,fun h0=>h.inv.pos (by simp) h0,by omega⟩
    have hxo:=hx x (by simp)
    have hnot: ∀y∈lt,y.1≠x.1:=fun y hy e=>by
      rw [List.map_append,List.map_cons] at hd
      obtain ⟨-, -,hdis⟩:=List.nodup_append.1 hd
      exact hdis y.1 (List.mem_map.2 ⟨y,h1 y hy,rfl⟩) x.1 (by simp) e
    obtain ⟨r,e,R⟩:=tAdd_R h.inv (by simp) hlr hxo hnot (by omega)
    obtain ⟨i1,g1,c1,q1⟩:=nextA_T (H1:=[b.p.wave,b.p.marks,b.p.spots]) (H2:=[]) b.ok R
    unfold bTable
    rw [hlr.all h.inv,Option.bind_some,if_pos (by omega),e,Option.bind_some]
    obtain ⟨lt1,ht1,hm1,hl1,ql⟩: ∃lt1,HasL (nextA b.ok b.p.table r).2.2 (nextA b.ok b.p.table r).1 lt1∧(∀y∈lt1,y∈D++[x])∧lt1.length≤(D++[x]).length∧(((nextA b.ok b.p.table r).2.1=b.ok∧lt1=lt++[x])∨((nextA b.ok b.p.table r).2.1=false∧b.s.size<b.s.busyN+(3*lt.length+4))):=by
      rcases q1 with ⟨a,t',p,q⟩|⟨a,a1,a2⟩
      · refine ⟨lt++[x],⟨t',p,q⟩,fun y hy=> ?_,by simp;omega, .inl ⟨a,rfl⟩⟩
        rcases List.mem_append.1 hy with hy|hy
        · exact List.mem_append.2 (.inl (h1 y hy))
        · exact List.mem_append.2 (.inr hy)
      · exact ⟨lt,by rw [a1];exact h.t.grow g1,fun y hy=>List.mem_append.2 (.inl (h1 y hy)),by simp;omega, .inr ⟨a,a2⟩⟩
    generalize nextA b.ok b.p.table r=t1 at*
    have hBp:Bp ⟨t1.2.2,t1.2.1,⟨b.p.wave,b.p.marks,b.p.spots,t1.1⟩,b.n⟩ lw lm ls lt1:=⟨i1,h.w.grow g1,h.m.grow g1,h.sp.grow g1,ht1,h.sy⟩
    obtain ⟨b',lt',e',B',z',c',p1,p2,p3,l',q'⟩:=bTable_T l (D++[x]) hBp (by rw [←hcat];exact hx) (by rw [←hcat];exact hd) (by rw [←hcat,List.length_append,List.length_cons];exact hl) hm1 hl1 (fun ho=>by
      rcases ql with ⟨a,b⟩|⟨a, -⟩
      · rw [b,h3 (a▸ho)]
      · dsimp only at ho;rw [a] at ho;cases ho)
    have hz:=g1.size
    dsimp only at z' c' p1 p2 p3 q'
    refine ⟨b',lt',e',B',by omega,by rw [List.length_cons];omega,p1,p2,p3,l',?_⟩
    rcases q' with ⟨a1,a2,a3⟩|⟨a1,a2⟩
    · rcases ql with ⟨o, -⟩|⟨o, -⟩
      · exact .inl ⟨a1,o▸a2,by rw [a3,hcat]⟩
      · rw [o] at a2;cases a2
    · refine .inr ⟨a1,fun hbo=> ?_⟩
      rw [List.length_cons]
      rcases ql with ⟨o, -⟩|⟨o,f⟩
      · have:=a2 (o.trans hbo);omega
      · omega
theorem dropP_eq (s:Ar) (h:Int):dropP s h=s.drop h:=by
  unfold dropP
  split
  · rename_i q;rw [q,drop_zero]
  · rfl
theorem bEnd_T {b : Bst} {lw : List Int} {lm : List Bool} {ls lt : List (Int × Int)} (h : Bp b lw lm ls lt) (ht : lt ≠ []) :
    ∃r,bEnd b=some r∧Inv r.2.2 [r.1]∧r.2.2.wait=[]∧r.2.2.size=b.s.size∧
      ((r.2.1=true∧b.ok=true∧ ∃t,Rep r.2.2 r.1 t∧ ∃tw tm tsp tt,t= .nd 6 0 0 tw tm tsp tt∧WaveT 9 tw lw∧BitsR tm lm∧ListR tsp ls∧ListR tt lt)∨
       (r.2.1=false∧r.1=0∧(b.ok=true→b.s.busyN=b.s.size))):=by
  unfold bEnd
  dsimp only
  simp only [dropP_eq]
  have fin : ∀ (root : Int) (ok : Bool) (s : Ar), Inv s (root :: [b.p.wave, b.p.marks, b.p.spots, b.p.table]) → (ok = false → root = 0) →
      ∃u,Option.map (fun u:Int×Ar=>(root,ok,if ok=false∧root≠0 then u.2.drop root else u.2)) (((((s.drop b.p.wave).drop b.p.marks).drop b.p.spots).drop b.p.table).work 1073741824)=some (root,ok,u)∧Inv u [root]∧u.wait=[]∧u.size=s.size∧Stay s u [root]:=fun root ok s hi hz=>by
    have hi':Inv s ([b.p.wave,b.p.marks,b.p.spots,b.p.table]++[root]):=hi.perm (by
      have:(root::[b.p.wave,b.p.marks,b.p.spots,b.p.table])=[root]++[b.p.wave,b.p.marks,b.p.spots,b.p.table]:=rfl
      rw [this];exact List.perm_append_comm)
    have hd:=Inv.dropAll hi'
    have hg:=Grow.dropAll [b.p.wave,b.p.marks,b.p.spots,b.p.table] s
    obtain ⟨u,w1,w2,w3, -,w5⟩:=hd.work (by simp) 1073741824
    refine ⟨u.2,?_,w2,w5 (by omega),w3.size.trans hg.size,?_⟩
    · have:(((s.drop b.p.wave).drop b.p.marks).drop b.p.spots).drop b.p.table=s.dropAll [b.p.wave,b.p.marks,b.p.spots,b.p.table]:=rfl
      rw [this,w1,Option.map_some,if_neg (fun q=>q.2 (hz q.1))]
    · refine ⟨w3.size.trans hg.size,fun x hx=> ?_⟩
      have hxs:s.has x=true:=(hi.rc (hx.mono (fun y hy _=>by simp at hy;simp [hy]))).1
      have hx':Rc (s.dropAll [b.p.wave,b.p.marks,b.p.spots,b.p.table]) [root] x:=(hg.stay (hi.perm (List.Perm.refl _))|>.mono (H:=[root]) (fun y hy _=>by simp at hy;simp [hy])).rc hx
      obtain ⟨a,c⟩:=w3.same x hx'
      exact ⟨a,c.trans (hg.has hxs).2⟩
  cases ho:b.ok with
  | false=>
    rw [if_neg (by decide)]
    obtain ⟨u,e,i,w,z, -⟩:=fin 0 false b.s (h.inv.zero_cons (by simp)) (fun _=>rfl)
    exact ⟨_,e,i,w,z, .inr ⟨rfl,rfl,fun h=>by cases h⟩⟩
  | true=>
    rw [if_pos rfl]
    obtain ⟨tt,ht1,ht2⟩:=h.t
    have htn:b.p.table≠0:=by
      rcases ht2 with ⟨-,q⟩|ht2
      · exact absurd q ht
      · exact ht1.ne_ofL ht2
    have hmk:vMake b.s b.p=b.s.make ⟨6,b.p.wave,b.p.marks,b.p.spots,b.p.table,0,0⟩:=by
      unfold vMake;rw [if_neg (fun q=>htn q.2.2.2)]
    rw [hmk]
    rcases h.inv.make (by simp) ⟨6,b.p.wave,b.p.marks,b.p.spots,b.p.table,0,0⟩ ⟨by dsimp only;omega,by dsimp only;omega⟩ U64.zero (fun k hk h0=>h.inv.pos hk h0) with ⟨m1,m2⟩|⟨f,f1,f2,f3,m1,m2,m3,m4,m5,m6,m7⟩
    · rw [m1]
      have hn:nextA true 0 ((0:Int),(2:Int),b.s)=(0,false,b.s):=rfl
      rw [hn]
      obtain ⟨u,e,i,w,z, -⟩:=fin 0 false b.s (h.inv.zero_cons (by simp)) (fun _=>rfl)
      exact ⟨_,e,i,w,z, .inr ⟨rfl,rfl,fun _=>m2⟩⟩
    · generalize b.s.make ⟨6,b.p.wave,b.p.marks,b.p.spots,b.p.table,0,0⟩=r at*
      have hn:nextA true 0 r=(r.1,true,r.2.2):=by unfold nextA;rw [if_pos m2,if_pos rfl]
      rw [hn,m1]
      obtain ⟨u,e,i,w,z,st⟩:=fin (f:Int) true r.2.2 m3 (fun h=>by cases h)
      refine ⟨_,e,i,w,z.trans m4.size, .inl ⟨rfl,rfl,?_⟩⟩
      obtain ⟨tw,w1,w2⟩:=h.w
      obtain ⟨tm,n1,n2⟩:=h.m
      obtain ⟨tsp,s1,s2⟩:=h.sp
      have hfh:r.2.2.has (f:Int)=true:=has_iff.2 ⟨by omega,by rw [m4.size];omega,by simpa using m5⟩
      have hrep:Rep r.2.2 (f:Int) (.nd 6 0 0 tw tm tsp tt):= .nd hfh (by rw [get_nat hfh,Int.toNat_natCast,m6]) (w1.grow m4) (n1.grow m4) (s1.grow m4) (ht1.grow m4)
      exact ⟨_,hrep.held st (by simp),tw,tm,tsp,tt,rfl,w2,n2,s2,ht2⟩
theorem docs_length {ts:List (List UInt8)}: ∀n,n≤ts.length→(docs ts n).length=((ts.take n).map fun t=>t.length+1).sum
  | 0,_=>rfl
  | n+1,h=>by
    obtain ⟨t,ht⟩:=at_some (show n<ts.length by omega)
    obtain ⟨h1,h2⟩:=List.getElem?_eq_some_iff.1 ht
    rw [docs_succ,List.length_append,docs_length n (by omega),List.take_succ_eq_append_getElem h1,List.map_append,List.sum_append,h2]
    unfold rowsOf
    rw [getD_at ht];simp
def tot (ds:Docs):Nat:=(ds.map fun d=>d.2.length).sum
theorem rows_tot {ds:Docs} (h:Right ds):(rowsM ds).length=tot ds+ds.length:=by
  rw [rowsM_length,right_all h,(all_docs _).length_eq,docs_length _ (Nat.le_refl _),List.take_length,List.map_map]
  unfold tot
  clear h
  induction ds with
  | nil=>rfl
  | cons d ds ih=>simp only [List.map_cons,List.sum_cons,List.length_cons,Function.comp] at ih⊢;omega
theorem rows_ok {ds:Docs} (h:Right ds): ∀x∈rowsM ds,XOk x:=fun x hx=>by
  unfold rowsM at hx
  obtain ⟨r,hr,rfl⟩:=List.mem_map.1 hx
  obtain ⟨t,ht,hrt⟩:=sorted_valid hr
  have hb:=sym_bound (ts:=ds.map (·.2)) r
  have h40:=(right_len h.right).2 r.1
  rw [getD_at ht] at h40
  rw [List.getElem?_map] at ht
  obtain ⟨d,hd,hdt⟩:=Option.map_eq_some_iff.1 ht
  have hid:=h.id d (List.mem_of_getElem? hd)
  refine ⟨?_,⟨by dsimp only;omega,by dsimp only;omega⟩,hb⟩
  have:ds.getD r.1 (0,[])=d:=by simp [List.getD,hd]
  rw [this];exact hid
theorem docs_ok {ds:Docs} (h:Right ds): ∀x∈docsM ds,DOk x:=fun x hx=>by
  unfold docsM at hx
  obtain ⟨d,hd,rfl⟩:=List.mem_map.1 hx
  have hid:=h.id d hd
  obtain ⟨i,hi⟩:=List.getElem?_of_mem hd
  have ht:(txt ds)[i]? =some d.2:=by rw [List.getElem?_map,hi];rfl
  have h40:=(right_len h.right).2 i
  rw [getD_at ht] at h40
  exact ⟨hid.1,hid.2,by dsimp only;omega,by dsimp only;omega⟩
theorem bBuild_T {s : Ar} (hI : Inv s []) (hw : s.wait = []) {ds : Docs} (h : Right ds) (rate : Int) :
    ∃r,bBuild s rate (rowsM ds) (docsM ds)=some r∧Inv r.2.2 [r.1]∧r.2.2.wait=[]∧r.2.2.size=s.size∧(r.1=0→ds=[]∨r.2.1=false)∧
      ((r.2.1=true∧VR r.2.2 r.1 ds rate)∨(r.2.1=false∧r.1=0∧8*s.size<10000+160*(rowsM ds).length)):=by
  unfold bBuild
  by_cases hd:ds=[]
  · subst hd
    rw [if_pos (show docsM []=[] from rfl)]
    exact ⟨_,rfl,hI.zero_cons (by simp),hw,rfl,fun _=> .inl rfl, .inl ⟨rfl, .inl ⟨rfl,rfl⟩,fun h=>absurd rfl h⟩⟩
  have hdn:docsM ds≠[]:=by unfold docsM;simpa using hd
  rw [if_neg hdn]
  have hlen:=h.len
  have hN:=rowsM_small ds
  have b0:Bp ⟨s,true,Parts.zero,0⟩ (rowW []) (rowM rate []) (rowS rate []) []:=
    ⟨(((hI.zero_cons (by simp)).zero_cons (by simp)).zero_cons (by simp)).zero_cons (by simp),⟨.nil, .nil, .nil⟩,⟨.nil, .nil, .inl ⟨rfl,rfl⟩⟩,⟨.nil, .nil, .inl ⟨rfl,rfl⟩⟩,⟨.nil, .nil, .inl ⟨rfl,rfl⟩⟩,fun x hx=>by simp [rowW] at hx⟩
  obtain ⟨b1,e1,w1,z1,q1⟩:=bRows_T rate (rowsM ds) [] b0 (by simpa using rows_ok h) (by simpa using hN) rfl rfl hw
  rw [show (([]:List (Int×Int×Int)).length:Int)=0 from rfl] at e1
  rw [List.nil_append] at q1
  rw [e1,Option.bind_some]
  dsimp only at z1 q1
  have hdl:(docsM ds).length=ds.length:=by unfold docsM;simp
  have hnd:((docsM ds).map (·.1)).Nodup:=by
    have:(docsM ds).map (·.1)=ds.map (·.1):=by unfold docsM;rw [List.map_map];rfl
    rw [this];exact h.nodup
  rcases q1 with ⟨o1,B1⟩|⟨o1,f1,lw',lm',ls',B1⟩
  · obtain ⟨b2,lt2,e2,B2,z2,c2, -, -, -,l2,q2⟩:=bTable_T (docsM ds) [] B1 (by simpa using docs_ok h) (by simpa using hnd) (by simp [hdl,hlen]) (by simp) (by simp) (fun _=>rfl)
    rw [e2,Option.bind_some]
    have hb1:=B1.busy w1
    have r1:(rowW (rowsM ds)).length=(rowsM ds).length:=by unfold rowW;simp
    have r2:(rowM rate (rowsM ds)).length=(rowsM ds).length:=by unfold rowM;simp
    have r3:=rowS_length rate (rowsM ds)
    rw [List.length_nil] at hb1
    rcases q2 with ⟨o2, -,l3⟩|⟨o2,f2⟩
    · rw [List.nil_append] at l3
      subst l3
      obtain ⟨r,e3,i3,w3,z3,q3⟩:=bEnd_T B2 hdn
      refine ⟨r,e3,i3,w3,by omega,?_,?_⟩
      · intro hr0
        rcases q3 with ⟨o3, -,t,ht,tw,tm,tsp,tt,rfl, -⟩|⟨o3, -⟩
        · exact absurd hr0 ht.ne
        · exact .inr o3
      · rcases q3 with ⟨o3, -,t,ht,hv⟩|⟨o3,r0,f3⟩
        · exact .inl ⟨o3, .inr ⟨t,ht,hv⟩,fun h0=>i3.pos (by simp) h0⟩
        · have:=f3 o2
          exact .inr ⟨o3,r0,by omega⟩
    · have hlt2 : ∃ r, bEnd b2 = some r ∧ Inv r.2.2 [r.1] ∧ r.2.2.wait = [] ∧ r.2.2.size = b2.s.size ∧ r.2.1 = false ∧ r.1 = 0 := by
        unfold bEnd
        dsimp only
        simp only [dropP_eq]
        rw [o2,if_neg (by decide)]
        have hi':Inv b2.s ([b2.p.wave,b2.p.marks,b2.p.spots,b2.p.table]++[]):=B2.inv
        have hdd:=Inv.dropAll hi'
        have hg:=Grow.dropAll [b2.p.wave,b2.p.marks,b2.p.spots,b2.p.table] b2.s
        obtain ⟨u,u1,u2,u3, -,u5⟩:=hdd.work (by simp) 1073741824
        have he:(((b2.s.drop b2.p.wave).drop b2.p.marks).drop b2.p.spots).drop b2.p.table=b2.s.dropAll [b2.p.wave,b2.p.marks,b2.p.spots,b2.p.table]:=rfl
        rw [he,u1,Option.map_some]
        exact ⟨_,rfl,u2.zero_cons (by simp),u5 (by omega),u3.size.trans hg.size,rfl,rfl⟩
      obtain ⟨r,e3,i3,w3,z3,o3,r0⟩:=hlt2
      have:=f2 o1
      exact ⟨r,e3,i3,w3,by omega,fun _=> .inr o3, .inr ⟨o3,r0,by omega⟩⟩
  · obtain ⟨b2,lt2,e2,B2,z2,c2, -, -, -,l2,q2⟩:=bTable_T (docsM ds) [] B1 (by simpa using docs_ok h) (by simpa using hnd) (by simp [hdl,hlen]) (by simp) (by simp) (fun ho=>by simp [o1] at ho)
    rw [e2,Option.bind_some]
    have o2:b2.ok=false:=by
      rcases q2 with ⟨-,q, -⟩|⟨q, -⟩
      · rw [o1] at q;cases q
      · exact q
    have hlt2: ∃r,bEnd b2=some r∧Inv r.2.2 [r.1]∧r.2.2.wait=[]∧r.2.2.size=b2.s.size∧r.2.1=false∧r.1=0:=by
      unfold bEnd
      dsimp only
      simp only [dropP_eq]
      rw [o2,if_neg (by decide)]
      have hi':Inv b2.s ([b2.p.wave,b2.p.marks,b2.p.spots,b2.p.table]++[]):=B2.inv
      have hdd:=Inv.dropAll hi'
      have hg:=Grow.dropAll [b2.p.wave,b2.p.marks,b2.p.spots,b2.p.table] b2.s
      obtain ⟨u,u1,u2,u3, -,u5⟩:=hdd.work (by simp) 1073741824
      have he:(((b2.s.drop b2.p.wave).drop b2.p.marks).drop b2.p.spots).drop b2.p.table=b2.s.dropAll [b2.p.wave,b2.p.marks,b2.p.spots,b2.p.table]:=rfl
      rw [he,u1,Option.map_some]
      exact ⟨_,rfl,u2.zero_cons (by simp),u5 (by omega),u3.size.trans hg.size,rfl,rfl⟩
    obtain ⟨r,e3,i3,w3,z3,o3,r0⟩:=hlt2
    rw [List.length_nil] at f1
    exact ⟨r,e3,i3,w3,by omega,fun _=> .inr o3, .inr ⟨o3,r0,by omega⟩⟩
theorem Inv.new (n:Nat) (h:n≤6000):Inv (Ar.new n) []:=
  ⟨Ar.Wq.new n h,by simp,fun m _ _ hm=>by simp [Ar.new] at hm,fun m _ _ hm=>by simp [Ar.new] at hm,fun m _ _ hm=>by simp [Ar.new] at hm,by simp,⟨fun _=>0,fun m _ _ hm=>by simp [Ar.new] at hm⟩,by
    have:(Ar.new n).busyN=0:=usedTo_none _ _ fun _ _ _=>rfl
    rw [this]
    rfl⟩
end
section
open Go.RowKit
def placeZ (id:Int):Docs→Int→Int
  | [],_=> -1
  | d::l,i=>if d.1=id then i else placeZ id l (i+1)
def mrFrom (ds:Docs):Docs→Int→Bool
  | [],_=>decide (ds.length≤10)
  | d::l,i=>decide (1≤d.1)&&(decide (d.2.length≤40)&&(decide (placeZ d.1 ds 0=i)&&mrFrom ds l (i+1)))
def mRight (ds:Docs):Bool:=mrFrom ds ds 0
def sumW:Docs→Int→Int
  | [],n=>n
  | d::l,n=>sumW l (wrap64 (n+d.2.length))
def few (ds:Docs):Bool:=decide (ds.length≤12)&&(decide (sumW ds 0≤60)&&mRight ds)
theorem wrap_len {n i:Nat} (h:n≤maxLen) (hi:i<n):wrap64 ((i:Int)+1)=(i:Int)+1:=IntWalk.wrap64_in _ (by unfold maxLen at h;omega)
theorem mrFrom_all (ds:Docs): ∀(l:Docs) (i:Nat),mrFrom ds l (i:Int)=true→(∀k d,l[k]? =some d→1≤d.1∧d.2.length≤40∧placeZ d.1 ds 0=((i+k:Nat):Int))∧ds.length≤10
  | [],i,h=>⟨fun k d hd=>by simp at hd,by unfold mrFrom at h;simpa using h⟩
  | x::l,i,h=>by
    unfold mrFrom at h
    simp only [Bool.and_eq_true,decide_eq_true_eq] at h
    obtain ⟨h1,h2,h3,h4⟩:=h
    obtain ⟨h5,h6⟩:=mrFrom_all ds l (i+1) h4
    refine ⟨fun k d hd=> ?_,h6⟩
    cases k with
    | zero=>cases hd;exact ⟨h1,h2,by rw [h3];rfl⟩
    | succ k=>
      obtain ⟨a,b,c⟩:=h5 k d hd
      exact ⟨a,b,by rw [c];congr 1;omega⟩
theorem sumW_eq: ∀(l:Docs) (n:Nat),(∀d∈l,d.2.length≤40)→n+40*l.length<100000→sumW l n=((n+tot l:Nat):Int)
  | [],n,_,_=>by unfold sumW tot;simp
  | d::l,n,h,hn=>by
    have hd:=h d (by simp)
    simp only [List.length_cons] at hn
    unfold sumW
    rw [IntWalk.wrap64_in _ (by omega)]
    have:=sumW_eq l (n+d.2.length) (fun x hx=>h x (by simp [hx])) (by omega)
    rw [show (n:Int)+(d.2.length:Int)=((n+d.2.length:Nat):Int) by omega,this]
    congr 1
    unfold tot
    simp only [List.map_cons,List.sum_cons]
    omega
theorem few_right {ds:Docs} (h:few ds=true) (hid: ∀d∈ds,(Lit.int .i64 d.1).wf=true):Right ds∧tot ds≤60∧ds.length≤10:=by
  unfold few mRight at h
  simp only [Bool.and_eq_true,decide_eq_true_eq] at h
  obtain ⟨h1,h2,h3⟩:=h
  obtain ⟨h4,h5⟩:=mrFrom_all ds ds 0 h3
  have h40: ∀d∈ds,d.2.length≤40:=fun d hd=>by
    obtain ⟨k,hk⟩:=List.getElem?_of_mem hd
    exact (h4 k d hk).2.1
  rw [show (0:Int)=((0:Nat):Int) from rfl,sumW_eq ds 0 h40 (by omega)] at h2
  refine ⟨⟨?_,fun d hd=> ?_,?_⟩,by omega,h5⟩
  · unfold refRight
    simp only [Bool.and_eq_true,List.all_eq_true,decide_eq_true_eq,List.length_map]
    exact ⟨fun t ht=>by obtain ⟨d,hd,rfl⟩:=List.mem_map.1 ht;exact h40 d hd,h5⟩
  · obtain ⟨k,hk⟩:=List.getElem?_of_mem hd
    exact ⟨(h4 k d hk).1,by have:=hid d hd;simp [Lit.wf,IntKind.min,IntKind.max,IntKind.bits,IntKind.signed] at this;omega⟩
  · refine List.pairwise_iff_getElem.2 fun i j hi hj hij hc=> ?_
    simp only [List.length_map] at hi hj
    simp only [List.getElem_map] at hc
    have a:=(h4 i _ (List.getElem?_eq_getElem hi)).2.2
    have b:=(h4 j _ (List.getElem?_eq_getElem hj)).2.2
    rw [hc,b] at a
    omega
end
section
open Go.RowKit
attribute [local go_sem ↓] Go.wp_at_zero Go.wp_at_succ
attribute [local go_sem] str_len
theorem place_calls (v : Value) (ds : Docs) (id : Int) (hl : ds.length ≤ 50000) (w : World) (h : Rd2 w v ds) :
    Calls Tryz.prog 19 #[v, .int .i64 id] w fun e w'=>e= .returned (.int .i64 (placeZ id ds 0))∧Below w.heap.size w w':=by
  obtain ⟨R,hR⟩: ∃R,placeZ id ds 0=R:=⟨_,rfl⟩
  rw [hR]
  have HR:=Lib.hid hR;clear hR
  have HK:=Lib.hid h
  obtain ⟨A,cap,rfl,h2⟩:=h
  clear h2
  go_enter Tryz.func19,Tryz.ntmps19
  go_wp2_with fail
  go_loopg [5] ds.length (fun k p wr=> ∃i:Nat,p= .int .i64 (i:Int)∧i+k=ds.length∧Hid (placeZ id (ds.drop i) i=R)∧Below w.heap.size w wr)
  case atStart=>exact ⟨0,rfl,by omega,HR,Below.refl _ _⟩
  case round=>
    obtain ⟨i,rfl,hk,Hl,hB⟩:=hrel
    by_cases hlt:i<ds.length
    · obtain ⟨k,rfl⟩: ∃k,gk=k+1:=⟨gk - 1,by omega⟩
      obtain ⟨d,hd⟩:=at_some hlt
      have hl2:=Hl.out
      rw [drop_at hd,placeZ] at hl2
      obtain ⟨A',cap',hv,h2⟩:=HK.out.below hB
      obtain ⟨ad,rfl,hg,hc⟩:=h2 (by omega)
      obtain ⟨rfl, -,rfl⟩:=Value.slice.inj hv
      obtain ⟨-,c1,c2⟩:=hc i d hd
      have n1:decide ((i:Int)<(ds.length:Int))=true:=by simpa using hlt
      have n2:(i:Int)<(ds.length:Int):=by omega
      have e3:wrap64 ((i:Int)+1)=(i:Int)+1:=IntWalk.wrap64_in _ (by omega)
      clear hc c2 h2 hv Hl hd
      by_cases he:d.1=id
      · have d1:(d.1==id)=true:=by simpa using he
        rw [if_pos he] at hl2
        have HL:=Lib.hid hl2
        clear hl2 he
        go_wp2_with fail
        go_ret
        exact ⟨by rw [←HL.out];rfl,hB⟩
      · have d1:(d.1==id)=false:=by simpa using he
        rw [if_neg he] at hl2
        have HL:=Lib.hid hl2
        clear hl2 he
        go_wp2_with fail
        go_roundg k
        case measure=>omega
        case rel=>exact ⟨i+1,by first|rfl|(rw [e3];rfl),by omega,HL,hB⟩
    · have hi:i=ds.length:=by omega
      have hl2:=Hl.out
      rw [hi,List.drop_length,placeZ] at hl2
      have HL:=Lib.hid hl2
      have n1:decide ((i:Int)<(ds.length:Int))=false:=by simpa using hlt
      clear hl2 Hl
      go_wp2_with fail
      go_ret
      exact ⟨by rw [←HL.out];rfl,hB⟩
theorem mright_calls (v : Value) (ds : Docs) (hl : ds.length ≤ 50000) (w : World) (h : Rd2 w v ds) :
    Calls Tryz.prog 74 #[v] w fun e w'=>e= .returned (.bool (mRight ds))∧Below w.heap.size w w':=by
  obtain ⟨R,hR⟩: ∃R,mRight ds=R:=⟨_,rfl⟩
  rw [hR]
  have HR:=Lib.hid hR;clear hR
  have HK:=Lib.hid h
  obtain ⟨A,cap,rfl,h2⟩:=h
  clear h2
  go_enter Tryz.func74,Tryz.ntmps74
  go_wp2_with fail
  go_loopg [3] ds.length (fun k p wr=> ∃i:Nat,p= .int .i64 (i:Int)∧i+k=ds.length∧Hid (mrFrom ds (ds.drop i) i=R)∧Hid (Below w.heap.size w wr))
  case atStart=>exact ⟨0,rfl,by omega,HR,Lib.hid (Below.refl _ _)⟩
  case round=>
    obtain ⟨i,rfl,hk,Hl,HB⟩:=hrel
    by_cases hlt:i<ds.length
    · obtain ⟨k,rfl⟩: ∃k,gk=k+1:=⟨gk - 1,by omega⟩
      obtain ⟨d,hd⟩:=at_some hlt
      have hl2:=Hl.out
      rw [drop_at hd,mrFrom] at hl2
      have HR2:=Lib.hid (HK.out.below HB.out)
      obtain ⟨A',cap',hv,h2⟩:=HR2.out
      obtain ⟨ad,rfl,hg,hc⟩:=h2 (by omega)
      obtain ⟨rfl, -,rfl⟩:=Value.slice.inj hv
      obtain ⟨-,c1,c2⟩:=hc i d hd
      have n1:decide ((i:Int)<(ds.length:Int))=true:=by simpa using hlt
      have n2:(i:Int)<(ds.length:Int):=by omega
      have e3:wrap64 ((i:Int)+1)=(i:Int)+1:=IntWalk.wrap64_in _ (by omega)
      clear hc h2 hv Hl hd
      replace c2:wr.cell? ⟨(ad.add (i*2)).block,(ad.add (i*2)).off+1,none⟩=some (strOf d.2):=c2
      have hend: ∀W2,Below wr.heap.size wr W2→Below w.heap.size w W2:=fun W2 hb=>below_step HB.out hb
      by_cases g1:1≤d.1
      · have d1:decide (d.1<1)=false:=by simp;omega
        rw [decide_eq_true g1,Bool.true_and] at hl2
        by_cases g2:d.2.length≤40
        · have d2:decide ((40:Int)<(d.2.length:Int))=false:=by simp;omega
          rw [decide_eq_true g2,Bool.true_and] at hl2
          by_cases g3:placeZ d.1 ds 0=(i:Int)
          · have d3:(placeZ d.1 ds 0==(i:Int))=true:=by simpa using g3
            rw [decide_eq_true g3,Bool.true_and] at hl2
            have HL:=Lib.hid hl2
            clear hl2 g1 g2 g3
            go_wp2_with fail
            refine (place_calls _ ds _ hl _ HR2.out).mono ?_
            rintro e1 W1 ⟨rfl,hb1⟩
            have HB1:=Lib.hid (hend _ hb1);clear hb1
            go_wp2_with fail
            go_roundg k
            case measure=>omega
            case rel=>exact ⟨i+1,by first|rfl|(rw [e3];rfl),by omega,HL,HB1⟩
          · have d3:(placeZ d.1 ds 0==(i:Int))=false:=by simpa using g3
            rw [decide_eq_false g3,Bool.false_and] at hl2
            have HL:=Lib.hid hl2
            clear hl2 g1 g2 g3
            go_wp2_with fail
            refine (place_calls _ ds _ hl _ HR2.out).mono ?_
            rintro e1 W1 ⟨rfl,hb1⟩
            have HB1:=Lib.hid (hend _ hb1);clear hb1
            go_wp2_with fail
            go_ret
            exact ⟨by rw [←HL.out];rfl,HB1.out⟩
        · have d2:decide ((40:Int)<(d.2.length:Int))=true:=by simp;omega
          rw [decide_eq_false g2,Bool.false_and] at hl2
          have HL:=Lib.hid hl2
          clear hl2 g1 g2
          go_wp2_with fail
          go_ret
          exact ⟨by rw [←HL.out];rfl,HB.out⟩
      · have d1:decide (d.1<1)=true:=by simp;omega
        rw [decide_eq_false g1,Bool.false_and] at hl2
        have HL:=Lib.hid hl2
        clear hl2 g1
        go_wp2_with fail
        go_ret
        exact ⟨by rw [←HL.out];rfl,HB.out⟩
    · have hi:i=ds.length:=by omega
      have hl2:=Hl.out
      rw [hi,List.drop_length,mrFrom] at hl2
      have HL:=Lib.hid hl2
      have n1:decide ((i:Int)<(ds.length:Int))=false:=by simpa using hlt
      clear hl2 Hl
      go_wp2_with fail
      go_ret
      exact ⟨by rw [←HL.out];first|rfl|(show Ending.returned (Value.bool (decide ((ds.length:Int)≤10)))=_;congr 2;exact decide_eq_decide.2 (by omega)),HB.out⟩
theorem few_calls (v : Value) (ds : Docs) (hl : ds.length ≤ maxLen) (w : World) (h : Rd2 w v ds) :
    Calls Tryz.prog 14 #[v] w fun e w'=>e= .returned (.bool (few ds))∧Below w.heap.size w w':=by
  obtain ⟨R,hR⟩: ∃R,few ds=R:=⟨_,rfl⟩
  rw [hR]
  have HR:=Lib.hid hR;clear hR
  have HK:=Lib.hid h
  have HM:=Lib.hid hl
  clear hl
  obtain ⟨A,cap,rfl,h2⟩:=h
  clear h2
  go_enter Tryz.func14,Tryz.ntmps14
  go_wp2_with fail
  go_loopg [3,7] ds.length (fun k p q wr=> ∃(i:Nat) (n:Int),p= .int .i64 n∧q= .int .i64 (i:Int)∧i+k=ds.length∧Hid (sumW (ds.drop i) n=sumW ds 0)∧Below w.heap.size w wr)
  case atStart=>exact ⟨0,0,rfl,rfl,by omega,Lib.hid rfl,Below.refl _ _⟩
  case round=>
    obtain ⟨i,n,rfl,rfl,hk,Hl,hB⟩:=hrel
    by_cases hlt:i<ds.length
    · obtain ⟨k,rfl⟩: ∃k,gk=k+1:=⟨gk - 1,by omega⟩
      obtain ⟨d,hd⟩:=at_some hlt
      have hl2:=Hl.out
      rw [drop_at hd,sumW] at hl2
      obtain ⟨A',cap',hv,h2⟩:=HK.out.below hB
      obtain ⟨ad,rfl,hg,hc⟩:=h2 (by omega)
      obtain ⟨rfl, -,rfl⟩:=Value.slice.inj hv
      obtain ⟨-,c1,c2⟩:=hc i d hd
      have n1:decide ((i:Int)<(ds.length:Int))=true:=by simpa using hlt
      have n2:(i:Int)<(ds.length:Int):=by omega
      have e3:wrap64 ((i:Int)+1)=(i:Int)+1:=wrap_len HM.out hlt
      replace c2:wr.cell? ⟨(ad.add (i*2)).block,(ad.add (i*2)).off+1,none⟩=some (strOf d.2):=c2
      have HL:=Lib.hid hl2
      clear hc c1 h2 hv Hl hd hl2
      go_wp2_with fail
      go_roundg k
      case measure=>omega
      case rel=>exact ⟨i+1,_,rfl,by first|rfl|(rw [e3];rfl),by omega,HL,hB⟩
    · have hi:i=ds.length:=by omega
      have hl2:=Hl.out
      rw [hi,List.drop_length,sumW] at hl2
      have n1:decide ((i:Int)<(ds.length:Int))=false:=by simpa using hlt
      have HB:=Lib.hid hB
      clear Hl hB
      have hr:=HR.out
      unfold few at hr
      rw [←hl2] at hr
      by_cases g1:ds.length≤12
      · have d1:decide ((ds.length:Int)≤12)=true:=by simp;omega
        rw [decide_eq_true g1,Bool.true_and] at hr
        by_cases g2:n≤60
        · have d2:decide (n≤60)=true:=by simpa using g2
          rw [d2,Bool.true_and] at hr
          have hl5:=Lib.hid (show ds.length≤50000 by omega)
          have HR2:=Lib.hid hr
          clear g1 g2 hl2 hr
          go_wp2_with fail
          refine (mright_calls _ ds hl5.out _ (HK.out.below HB.out)).mono ?_
          rintro e1 W1 ⟨rfl,hb1⟩
          have HB1:=Lib.hid (below_step HB.out hb1);clear hb1
          go_wp2_with fail
          go_ret
          exact ⟨by rw [←HR2.out];rfl,HB1.out⟩
        · have d2:decide (n≤60)=false:=by simpa using g2
          rw [d2,Bool.false_and] at hr
          have HR2:=Lib.hid hr
          clear g1 g2 hl2 hr
          go_wp2_with fail
          go_ret
          exact ⟨by rw [←HR2.out];rfl,HB.out⟩
      · have d1:decide ((ds.length:Int)≤12)=false:=by simp;omega
        rw [decide_eq_false g1,Bool.false_and] at hr
        have HR2:=Lib.hid hr
        clear g1 hl2 hr
        go_wp2_with fail
        go_ret
        exact ⟨by rw [←HR2.out];rfl,HB.out⟩
end
section
open Go.RowKit
end
section
open Go.RowKit
def Rds (w:World) (A:Option Addr) (n size:Nat) (xs:List Value):Prop:=
  xs.length=n*size∧(0<n→ ∃ad,A=some ad∧ad.block<w.heap.size∧ ∀j u,xs[j]? =some u→w.cell? (ad.add j)=some u)
theorem Rds.below {w w':World} {A:Option Addr} {n size:Nat} {xs:List Value} (h:Rds w A n size xs) (hb:Below w.heap.size w w'):Rds w' A n size xs:=
  ⟨h.1,fun hn=>by
    obtain ⟨ad,e,hl,hc⟩:=h.2 hn
    exact ⟨ad,e,Nat.lt_of_lt_of_le hl hb.size,fun j u hu=>(hb.cell (by rw [block_of_add];exact hl)).trans (hc j u hu)⟩⟩
theorem add_zero_off (g j:Nat):(⟨g,0,none⟩:Addr).add j=⟨g,j,none⟩:=by unfold Addr.add;split<;>simp_all
theorem Rds.of_own {w:World} {base cap:Nat} {A:Option Addr} {e:TypeId} {size n:Nat} {xs:List Value} (h:w.ownsRow base e size (.slice A n cap) n xs):Rds w A n size xs:=by
  refine ⟨h.1,fun hn=> ?_⟩
  obtain ⟨-,A',cap',hv,h2⟩:=Rx.of_own h
  obtain ⟨g,rfl,hg,hc⟩:=h2 hn
  obtain ⟨rfl, -,rfl⟩:=Value.slice.inj hv
  refine ⟨_,rfl,hg,fun j u hu=> ?_⟩
  rw [add_zero_off,hc j (by have:=(List.getElem?_eq_some_iff.1 hu).1;have:=h.1;omega)]
  exact hu
theorem Rds.part {w:World} {A:Option Addr} {n size:Nat} {xs:List Value} (h:Rds w A n size xs) (k:Nat) (hk:k≤n):Rds w A k size (xs.take (k*size)):=by
  have hm:k*size≤n*size:=Nat.mul_le_mul_right _ hk
  refine ⟨by have:=h.1;simp;omega,fun h0=> ?_⟩
  obtain ⟨ad,e,hl,hc⟩:=h.2 (by omega)
  refine ⟨ad,e,hl,fun j u hu=>hc j u ?_⟩
  simp only [List.getElem?_take] at hu
  split at hu
  · exact hu
  · cases hu
theorem Rds.behind {w:World} {A A':Option Addr} {n size:Nat} {xs:List Value} (h:Rds w A n size xs) (k m:Nat) (hk:k≤n) (hm:m=n - k) (hA:k<n→A'=A.map (·.add (k*size))):Rds w A' m size (xs.drop (k*size)):=by
  subst hm
  have hm:k*size≤n*size:=Nat.mul_le_mul_right _ hk
  refine ⟨by have:=h.1;rw [List.length_drop,this,Nat.sub_mul],fun h0=> ?_⟩
  obtain ⟨ad,e,hl,hc⟩:=h.2 (by omega)
  refine ⟨ad.add (k*size),by rw [hA (by omega),e];rfl,by rw [block_of_add];exact hl,fun j u hu=> ?_⟩
  have:=hc (k*size+j) u (by rw [List.getElem?_drop] at hu;exact hu)
  rw [←this]
  congr 1
  generalize k*size=q
  obtain ⟨bb,oo,pp⟩:=ad
  unfold Addr.add
  rcases Nat.eq_zero_or_pos q with rfl|h1
  · simp
  · rcases Nat.eq_zero_or_pos j with rfl|h2
    · simp
    · rw [if_neg (by omega),if_neg (by omega),if_neg (by omega)]
      cases pp<;>simp<;>omega
theorem rds_one (w:World) (cs:Array Value) (e:TypeId) (size:Nat) (hs:cs.size=size):Rds (w.alloc (.cells cs e)) (some ⟨w.heap.size,0,none⟩) 1 size cs.toList:=by
  refine ⟨by simp [hs],fun _=>⟨_,rfl,by simp,fun j x hx=> ?_⟩⟩
  rw [add_zero_off,cells_of (blk_new w (.cells cs e) w.heap.size rfl) j]
  simpa using hx
theorem step_moreN {P : Program} {ops : Array Oper} {o : Oper} {a : Act} {K : Act → World → Prop} {Q : Exit → Act → World → Prop} {E : Prop} {w : World} (hwant : Region.wanted o (yielded ops a.tmps) = true) (s x : Operand) (t : TypeId)
    (ho:o.op= .call {callee:= .builtin .append,args:= #[s,x],argTypes:= #[t,t]})
    {base:Nat} {e:TypeId} (z:Value) (size bytes:Nat) (hsz:0<size) (ht:P.underlying t=some (.slice e)) (hi:(P.info? e).map (fun i=>(i.zero,i.size,i.bytes))=some (some z,size,bytes)) (hzs:z.cells.size=size)
    {v:Value} {n:Nat} {xs:List Value} (hs:a.eval s=v) (hown:w.ownsRow base e size v n xs)
    {A:Option Addr} {m c:Nat} {news:List Value} (hx:a.eval x= .slice A m c) (hr:Rds w A m size news) (h1: ∀u∈news,u.oneCell'=true)
    {nm:Nat} (hnm:nm=n+m) (h63:nm≤60000) (hby:bytes≤60000) (hbase:base≤w.heap.size)
    (h: ∀A' c' w',w'.ownsRow base e size (.slice A' nm c') nm (xs++news)→Below base w w'→(∀B,B≤w.heap.size→(∀k,v.ownBlock=some k→B≤k)→Below B w w')→K (a.put o.dst (.slice A' nm c')) w'):
    if Region.wanted o (yielded ops a.tmps)=true then Oper.wp P o a w K Q else E:=by
  subst hnm
  rw [if_pos hwant]
  have hb:(n+m)*bytes≤140737488355328:=Nat.le_trans (Nat.mul_le_mul h63 hby) (by omega)
  obtain ⟨i0,hi0,hz0,hz1,hz2⟩:=info_parts hi
  have key: ∃v' w',(Builtin.append_ #[t,t] o.type #[v, .slice A m c]).run P w= .ok v' w'∧w'.ownsRow base e size v' (n+m) (xs++news)∧Below base w w'∧(∀B,B≤w.heap.size→(∀k,v.ownBlock=some k→B≤k)→Below B w w'):=by
    rcases A with _|ad
    · have h0 : m = 0 := by
        rcases Nat.eq_zero_or_pos m with h0|h0
        · exact h0
        · obtain ⟨ad,h,_⟩:=hr.2 h0
          cases h
      subst h0
      have hn:news=[]:=List.eq_nil_of_length_eq_zero (by have:=hr.1;omega)
      subst hn
      refine ⟨v,w,?_,by simpa using hown,Below.refl _ _,fun B _ _=>Below.refl _ _⟩
      rcases hown.2 with ⟨rfl,rfl⟩|⟨g,cap,cur,rfl,_,_,hnc,_⟩
      · simp [Builtin.append_,run_underlying ht,sizeOf,typeInfo,hi0,Builtin.lenOf,Builtin.firstCells]
      · simp [Builtin.append_,run_underlying ht,sizeOf,typeInfo,hi0,Builtin.lenOf,Builtin.firstCells,hnc,storeCells]
    · have hc : ∀ j u, news[j]? = some u → w.cell? (ad.add j) = some u := by
        intro j u hu
        rcases Nat.eq_zero_or_pos m with h0|h0
        · subst h0
          have hn:news=[]:=List.eq_nil_of_length_eq_zero (by have:=hr.1;omega)
          subst hn
          simp at hu
        · obtain ⟨ad',h,_,hc⟩:=hr.2 h0
          injection h with h
          subst h
          exact hc j u hu
      obtain ⟨v',w',hrun,h2,hg,_,h5⟩:=run_append_own_at (P:=P) w base t o.type e i0 z size bytes ht hi0 hz0 hz1 hz2 hzs hsz v n xs hown ad m c news (by simpa using hr.1) hc h1 (by unfold maxLen;omega) hb hbase
      refine ⟨v',w',hrun,h2,(Below.refl base w).grown hg hbase fun k hk=> ?_,fun B hB hk=>(Below.refl B w).grown hg hB hk⟩
      rcases hown.2 with ⟨rfl,_⟩|⟨g',cap',cur,rfl,hge,_⟩
      · simp [Value.ownBlock] at hk
      · simp [Value.ownBlock] at hk;omega
  obtain ⟨v',w',hrun,h2,h3,h4⟩:=key
  obtain ⟨-,A',c',rfl, -⟩:=Rx.of_own h2
  unfold Oper.wp execOp
  simp only [ho,resolve,invoke,builtin,Sem.run_bind,Sem.run_pure,Result.andThen_ok,List.map_toArray,List.map_cons,List.map_nil,hs,hx,hrun]
  exact h A' c' w' h2 h3 h4
theorem own_cap {w:World} {base n cap size:Nat} {A:Option Addr} {e:TypeId} {xs:List Value} (h:w.ownsRow base e size (.slice A n cap) n xs):n≤cap:=by
  rcases h.2 with ⟨hv,h0⟩|⟨g,cap',cur,hv,hg,hc,hcap, -⟩
  · omega
  · obtain ⟨-, -,rfl⟩:=Value.slice.inj hv;exact hcap
abbrev HeldB (W v:World):Prop:=Below W.heap.size W v∧(W.heap.size≤v.heap.size)∧ ∀b o,b<W.heap.size→v.cell? ⟨b,o,none⟩=W.cell? ⟨b,o,none⟩
theorem HeldB.of {W v:World} (h:Below W.heap.size W v):HeldB W v:=⟨h,h.size,(bcell h).1⟩
theorem HeldB.start (W:World):HeldB W W.drew:=HeldB.of (Below.refl _ _).drew
theorem HeldB.low {W u v:World} (h:HeldB W u) (hb:Below W.heap.size u v):HeldB W v:=HeldB.of (h.1.trans hb)
theorem HeldB.call {W u v:World} (h:HeldB W u) (hb:Below u.heap.size u v):HeldB W v:=HeldB.of (h.1.trans (hb.mono h.2.1))
theorem HeldB.alloc {W u:World} (h:HeldB W u) (o:Obj):HeldB W (u.alloc o):=HeldB.of (h.1.alloc h.2.1 o)
def rowCells (l:List (Nat×Nat)):List Value:=itemCells (rowInts l)
end
end Go.Proofs.YtmlmnmkhigjaaaaGreat

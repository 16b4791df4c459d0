/- Hosts: what a valid one is; a host that lies in owned slices -/
import Derived.Test.YtmaibfgcngmjhaaGreatZeAG
import Derived.Test.YtmaibfgcngmjhaaGreatZeAA
import Derived.Test.YtmaibfgcngmjhaaGreatZeAN
import Derived.Test.YtmaibfgcngmjhaaGreatZeAK
import Derived.Test.YtmaibfgcngmjhaaGreatZeAM
set_option linter.unusedVariables false
set_option linter.unusedSimpArgs false
section
set_option maxRecDepth 100000
set_option maxHeartbeats 4000000
open Go Go.Proofs Tryz
namespace Go.Abs
theorem uE {t:Types}(b:(cW t).2=0){a:Int}(d:0<=a)(c:a<t.i.length):bZ t a=t.w a.toNat:=by
 unfold bZ;rw [if_pos];simp [given2F,b,insideF,d,c]
theorem vG {t:Types}(b:(cW t).2=0)(a:Int):(bZ t a).length<=8:=by
 by_cases h:0<=a/\a<t.i.length
 .rw [uE b h.1 h.2];exact (pD b).w _ bL
 .unfold bZ;rw [if_neg (by simp [given2F,b,insideF];omega)];simp
theorem Ev {t:Types}(b:(cW t).2=0)(a:Int):∀ x∈bZ t a,SmallA x:=by
 by_cases h:0<=a/\a<t.i.length
 .rw [uE b h.1 h.2];exact QS b _ bL
 .unfold bZ;rw [if_neg (by simp [given2F,b,insideF];omega)];simp
structure HostOk (t:Types) (h:Host):Prop where
 vf:(cW t).2=0
 gg:graphF h.o=0
 vl:h.values.length=h.o.i.length
 nd:∀ (i:Nat) (hi:i<h.o.i.length) (hv:i<h.values.length),iW t h.o.i[i] h.values[i]=0
 ed:∀ x∈h.o.j,x.type<t.j.length/\qF t x.type (gN h.o x.from_) (gN h.o x.L)=true
theorem rW {t:Types}{h:Host}(a:dH t h=0):HostOk t h:=by
 unfold dH oZ at a;split at a
 .rename_i h1;exact absurd a h1
 .rename_i h1;split at a
  .rename_i h2;exact absurd a h2
  .rename_i h2;split at a
   .cases a
   .rename_i h3;split at a
    .rename_i h4;exact absurd a h4
    .rename_i h4;rw [kX] at h4;rw [wS] at h4 a;refine ⟨bL,bL,bL,λi e c=>?_,λx b=>?_⟩
     .have:=fF _ _ h4 i (dN _) bL;simpa only [Jq,aA e,aA c,aF] using this
     .obtain ⟨k,d,rfl⟩:=aM b;have:=fF _ _ a k (dN _) bL;simp only [Vt,aA d,aF] at this;split at this
      .cases this
      .split at this
       .exact ⟨bL,by assumption⟩
       .cases this
theorem uY {t:Types}{k:Int}{vs:Xa0}(h:iW t k vs=0):k<t.i.length/\At t k.toNat=false/\vs.length=(bZ t k).length /\
  ∀ (j:Nat) (a:j<vs.length) (b:j<(bZ t k).length),(bZ t k)[j].am<=vs[j]/\vs[j]<=(bZ t k)[j].aw:=by
 unfold iW at h;split at h
 .cases h
 .rename_i h1;split at h
  .cases h
  .rename_i h2;split at h
   .cases h
   .rename_i h3;refine ⟨bL,by simpa using h2,bL,λj a b=>?_⟩;have:=fF _ _ h j (dN _) bL;simp only [DS,aA a,aA b,aF] at this;split at this
    .cases this
    .omega
theorem HostOk.row {t:Types}{h:Host}(ho:HostOk t h):∀ v∈h.values,v.length<=8/\∀ x∈v,-1000000<=x/\x<=1000000:=λv hv=>by
 obtain ⟨i,hi,rfl⟩:=aM hv;have hn:=ho.vl;obtain ⟨h1,h2,h3,h4⟩:=uY (ho.nd i bL hi);have hl:=vG ho.vf (h.o.i[i]' bL);refine ⟨bL,λx hx=>?_⟩;obtain ⟨j,hj,rfl⟩:=aM hx;have:=h4 j hj bL;have hs:=Ev ho.vf _ _ (aC (show j<(bZ t (h.o.i[i]' bL)).length by omega));have:=hs.lo;have:=hs.hi;omega
/-! ### a host in owned slices -/
def mA (qs:List Nat)(vs:Yb):Xa1:=List.zipWith (λq (v:Xa0)=>[D.own q v.length]) qs vs
theorem kI {a:List Nat}{vs:Yb}(h:a.length=vs.length):(mA a vs).length=vs.length:=by simp [mA,h]
theorem zO {a:List Nat}{vs:Yb}(h:a.length=vs.length)(q:Nat)(v:Xa0):mA (a++[q]) (vs++[v])=mA a vs++[[.own q v.length]]:=by
 simp [mA,List.zipWith_append h]
theorem t6 {a:List Nat}{vs:Yb}{i q:Nat}{v:Xa0}(c:a[i]?=some q)(b:vs[i]?=some v):(mA a vs)[i]?=some [.own q v.length]:=by
 simp [mA,List.getElem?_zipWith,c,b]
theorem UB {a:List Nat}{vs:Yb}{i:Nat}{v b:Xa0}(c:vs[i]?=some v)(d:b.length=v.length):mA a (vs.set i b)=mA a vs:=by
 apply fC;intro j;simp only [mA,List.getElem?_zipWith,cT];by_cases h:i=j
 .subst h;have e:=(aL.1 c).1;rw [if_pos rfl,if_pos e,c];cases a[i]?<;>simp [d]
 .rw [if_neg h]
structure HH (H:AHeap) (lo a b V:Nat) (qs:List Nat) (h:Host):Prop where
 ga:H.get a=some ⟨3,1,h.o.i.map cI,false⟩
 gb:H.get b=some ⟨124,3,h.o.j.map Edge.c,false⟩
 gV:H.get V=some ⟨27,1,mA qs h.values,false⟩
 len:qs.length=h.values.length
 gq:∀ (i q:Nat) (v:Xa0),qs[i]?=some q->h.values[i]?=some v->H.get q=some ⟨3,1,v.map cI,false⟩
 nd:(a :: b :: V :: qs).Nodup
 W:∀ q∈a :: b :: V :: qs,lo<=q/\q<H.next
section
variable {H H':AHeap} {lo a b V:Nat} {qs:List Nat} {x:Host}
theorem HH.a6 (h:HH H lo a b V qs x):a∈a :: b :: V :: qs:=bS
theorem HH.a2 (h:HH H lo a b V qs x):b∈a :: b :: V :: qs:=bS
theorem HH.ba (h:HH H lo a b V qs x):V∈a :: b :: V :: qs:=bS
theorem HH.ay (h:HH H lo a b V qs x){q:Nat}(c:q∈qs):q∈a :: b :: V :: qs:=by simp [c]
theorem HH.ab (h:HH H lo a b V qs x):a≠b/\a≠V/\b≠V:=by
 have:=h.nd;simp only [gC,aP,not_or] at this;exact ⟨this.1.1,this.1.2.1,this.2.1.1⟩
theorem HH.qn (h:HH H lo a b V qs x){q:Nat}(c:q∈qs):q≠a/\q≠b/\q≠V:=by
 have:=h.nd;simp only [gC,aP,not_or] at this;exact ⟨λe=>this.1.2.2 (e ▸ c),λe=>this.2.1.2 (e ▸ c),λe=>this.2.2.1 (e ▸ c)⟩
theorem HH.df (h:HH H lo a b V qs x){lo':Nat}(hl:lo'<=lo):HH H lo' a b V qs x:=⟨h.ga,h.gb,h.gV,h.len,h.gq,h.nd,λq hq=>⟨dA hl (h.W q hq).1,(h.W q hq).2⟩⟩
theorem HH.same (h:HH H lo a b V qs x)(hn:H.next<=H'.next)(hf:∀ j∈a :: b :: V :: qs,H'.get j=H.get j):HH H' lo a b V qs x where
 ga:=(hf a h.a6).trans h.ga
 gb:=(hf b h.a2).trans h.gb
 gV:=(hf V h.ba).trans h.gV
 len:=h.len
 gq i q v h1 h2:=(hf q (h.ay (aK h1))).trans (h.gq i q v h1 h2)
 nd:=h.nd
 W q hq:=⟨(h.W q hq).1,cH (h.W q hq).2 hn⟩
theorem HH.i (h:HH H lo a b V qs x)(hn:H.next<=H'.next){ns:Xa0}(ga:H'.get a=some ⟨3,1,ns.map cI,false⟩)(hf:∀ j∈b :: V :: qs,H'.get j=H.get j):HH H' lo a b V qs ⟨⟨ns,x.o.j⟩,x.values⟩ where
 ga:=ga
 gb:=(hf b bS).trans h.gb
 gV:=(hf V bS).trans h.gV
 len:=h.len
 gq i q v h1 h2:=(hf q (by simp [aK h1])).trans (h.gq i q v h1 h2)
 nd:=h.nd
 W q hq:=⟨(h.W q hq).1,cH (h.W q hq).2 hn⟩
theorem HH.j (h:HH H lo a b V qs x)(hn:H.next<=H'.next){es:List Edge}(gb:H'.get b=some ⟨124,3,es.map Edge.c,false⟩)(hf:∀ j∈a :: V :: qs,H'.get j=H.get j):HH H' lo a b V qs ⟨⟨x.o.i,es⟩,x.values⟩ where
 ga:=(hf a bS).trans h.ga
 gb:=gb
 gV:=(hf V bS).trans h.gV
 len:=h.len
 gq i q v h1 h2:=(hf q (by simp [aK h1])).trans (h.gq i q v h1 h2)
 nd:=h.nd
 W q hq:=⟨(h.W q hq).1,cH (h.W q hq).2 hn⟩
theorem HH.b2 (h:HH H lo a b V qs x)(hn:H.next<=H'.next){q:Nat}{v:Xa0}(hlo:lo<=q)(hq:∀ j∈a :: b :: V :: qs,j≠q)(hq2:q<H'.next)(gq:H'.get q=some ⟨3,1,v.map cI,false⟩)
  (gV:H'.get V=some ⟨27,1,mA qs x.values++[[.own q v.length]],false⟩) (hf:∀ j∈a :: b :: qs,H'.get j=H.get j):HH H' lo a b V (qs++[q]) ⟨x.o,x.values++[v]⟩ where
 ga:=(hf a bS).trans h.ga
 gb:=(hf b bS).trans h.gb
 gV:=by rw [zO h.len];exact gV
 len:=by simp [h.len]
 gq i q' v' h1 h2:=by
  by_cases hi:i<qs.length
  .rw [aY hi] at h1;rw [aY (by rw [<- h.len];exact hi)] at h2;exact (hf q' (by simp [aK h1])).trans (h.gq i q' v' h1 h2)
  .have h1':=(aL.1 h1).1;have:i=qs.length:=by simp at h1';omega
   subst this;simp at h1;rw [h.len] at h2;simp at h2;subst h1 h2;exact gq
 nd:=by
  have:=h.nd;have e:a :: b :: V :: (qs++[q])=(a :: b :: V :: qs)++[q]:=rfl;rw [e,gG];exact ⟨this,by simp,λy hy z hz=>by rw [aX] at hz;subst hz;exact hq y hy⟩
 W j hj:=by
  have e:a :: b :: V :: (qs++[q])=(a :: b :: V :: qs)++[q]:=rfl;rw [e,aQ,aX] at hj;rcases hj with hj|rfl
  .exact ⟨(h.W j hj).1,cH (h.W j hj).2 hn⟩
  .exact ⟨hlo,hq2⟩
theorem HH.cn (h:HH H lo a b V qs x)(hn:H.next<=H'.next){i q:Nat}{v v':Xa0}(h1:qs[i]?=some q)(h2:x.values[i]?=some v)(hl:v'.length=v.length)(gq:H'.get q=some ⟨3,1,v'.map cI,false⟩)
  (hf:∀ j∈a :: b :: V :: qs,j≠q->H'.get j=H.get j):HH H' lo a b V qs ⟨x.o,x.values.set i v'⟩ where
 ga:=(hf a h.a6 (Ne.symm (h.qn (aK h1)).1)).trans h.ga
 gb:=(hf b h.a2 (Ne.symm (h.qn (aK h1)).2.1)).trans h.gb
 gV:=by rw [UB h2 hl];exact (hf V h.ba (Ne.symm (h.qn (aK h1)).2.2)).trans h.gV
 len:=by simp [h.len]
 gq j q' w k1 k2:=by
  have hqn:qs.Nodup:=by have:=h.nd;simp only [gC] at this;exact this.2.2.2
  rw [cT] at k2;by_cases hj:i=j
  .subst hj;rw [h1] at k1;cases k1
   rw [if_pos rfl] at k2;split at k2
   .cases k2;exact gq
   .cases k2
  .rw [if_neg hj] at k2;refine (hf q' (h.ay (aK k1)) λe=>hj ?_).trans (h.gq j q' w k1 k2);subst e;obtain ⟨a1,a2⟩:=aL.1 h1;obtain ⟨b1,b2⟩:=aL.1 k1;exact (vR hqn).1 (a2.trans b2.symm)
 nd:=h.nd
 W q hq:=⟨(h.W q hq).1,cH (h.W q hq).2 hn⟩
theorem HH.dm (h:HH H lo a b V qs x):(mA qs x.values).map (·.map (fM H))=x.values.map cL:=by
 apply fC;intro i;simp only [aW];by_cases d:i<x.values.length
 .have hq:i<qs.length:=by rw [h.len];exact d
  have c:=aA d;have e:=aA hq;rw [t6 e c,c];have:=h.gq i _ _ e c;simp [fM,this,cL,dLI]
 .rw [bC (by rw [kI h.len];omega),bC bL];rfl
theorem HH.bw (h:HH H lo a b V qs x):kZ H (.agg [.own a x.o.i.length,.own b x.o.j.length,.own V x.values.length])=x.d:=by
 have j:∀ l:Xa1,(∀ c∈l,∀ y∈c,∀ i n,y≠D.own i n/\∀ p q r,y≠D.win i p q r)->l.map (·.map (fM H))=l:=λl g=>by
  conv=>rhs;rw [<- List.map_id l]
  refine bY λc f=>?_;conv=>rhs;rw [id,<- List.map_id c]
  refine bY λy e=>?_;cases y<;>first|rfl|(exfalso;first|exact (g c f _ e _ _).1 rfl|exact (g c f _ e _ 0).2 _ _ _ rfl)
 simp only [kZ,oR,gA,kG,h.ga,h.gb,h.gV,bR,kI h.len,if_true,h.dm];rw [j (x.o.i.map cI) (λc f y e i n=>by
  rw [aS] at f;obtain ⟨z,_,rfl⟩:=f;simp [cI] at e;subst e;simp),j (x.o.j.map Edge.c) (λc f y e i n=>by
  rw [aS] at f;obtain ⟨z,_,rfl⟩:=f;simp [Edge.c,dI] at e;rcases e with rfl|rfl|rfl<;>simp)]
 rfl
theorem Qh {l:Xa1}(d:∀ c∈l,∀ y∈c,mC y=[]):l.flatten.flatMap mC=[]:=by
 rw [AK];intro i a;rw [bM] at a;obtain ⟨y,b,a⟩:=a;rw [iI] at b;obtain ⟨c,e,b⟩:=b;rw [d c e y b] at a;cases a
theorem HH.d7 (h:HH H lo a b V qs x)(n m k:Nat)(e:Int):∀ i∈Cx H (.tup [.agg [.own a n,.own b m,.own V k],dI e]),i∈a :: b :: V :: qs:=by
 intro i hi;have l:(x.o.i.map cI).flatten.flatMap mC=[]:=Qh λc f y d=>by
  rw [aS] at f;obtain ⟨z,_,rfl⟩:=f;simp [cI] at d;subst d;rfl
 have g:(x.o.j.map Edge.c).flatten.flatMap mC=[]:=Qh λc f y d=>by
  rw [aS] at f;obtain ⟨z,_,rfl⟩:=f;simp [Edge.c,dI] at d;rcases d with rfl|rfl|rfl<;>rfl
 simp only [Cx,Jo,G6,iO,vS,h.ga,h.gb,h.gV,l,g,dI,mC,dG,aQ,aP,dU,or_false] at hi;rcases hi with rfl|rfl|rfl|hi
 .exact h.a6
 .exact h.a2
 .exact h.ba
 .rw [bM] at hi;obtain ⟨y,d,hi⟩:=hi;rw [iI] at d;obtain ⟨c,f,d⟩:=d;simp only [mA] at f;obtain ⟨j,o,rfl⟩:=aM f;rw [List.getElem_zipWith,aX] at d;subst d;simp only [mC,aX] at hi;subst hi;exact h.ay (aC _)
end
theorem Q1 (h:Host):D.N h.c=true:=by simp [Host.c,D.N,D.U,pA,yY];exact dL _ (λv=>by simp [cL,D.N,pA]) _
@[go_sem] theorem Host.dw (h:Host):h.d.U=true:=by simp [Host.d,D.U,Q1]
/-! ### Extract -/
def exE (t:Types)(h:Host)(p:Part):Int:=if dH t h≠0 then dH t h else subF h.o p
def XV (t:Types)(h:Host)(p:Part):Host:=if exE t h p=0 then ⟨dF h.o p,p.i.map λk=>h.values[k.toNat]?.getD []⟩ else ⟨⟨[],[]⟩,[]⟩
theorem KD (t:Types)(J:t.ok)(h:Host)(p:Part)(O:p.i.length<=1000000)(C:p.j.length<=1000000):Pua 217 [t.d,h.d,p.d] (.tup [(XV t h p).d,dI (exE t h p)]):=by
 refine Tz.pK ⟨λt=>t==6||t==10||t==11||t==13||t==48,λr=>match r with|11=>[(0,2),(1,2),(2,3),(2,4),(2,5),(2,6),(2,8),(2,9),(2,10),(2,11),(0,12),(1,12),(0,13),(1,13)]|_=>[]⟩ func217 rfl (λQ E=>?_);have Y:=wa @Host.d.eq_1 @Host.c.eq_1;refine wv (h:=aB (qB t J h) wl ?_);refine dD (λT=>?_) λT=>?_
 .have z:exE t h p=(oZ t h).2:=by unfold exE;rw [if_pos (by unfold dH;omega)];rfl
  have q:XV t h p=⟨⟨[],[]⟩,[]⟩:=by unfold XV;rw [if_neg bL]
  exact wv (h:=E _ _ (by simp [go_sem,z,q,dLI]))
 .have h0:dH t h=0:=by unfold dH;omega
  have z:exE t h p=subF h.o p:=by unfold exE;rw [if_neg bL]
  have B:=rW h0;have o:=B.row;have P:=bW B.gg;have I:=B.vl;refine wv (h:=aB (Cs h.o p O C) wl ?_);refine dD (λS=>?_) λS=>?_
  .have q:XV t h p=⟨⟨[],[]⟩,[]⟩:=by unfold XV;rw [if_neg bL]
   exact wv (h:=E _ _ (by simp [go_sem,z,q,dLI]))
  .have h5':subF h.o p=0:=bL;obtain ⟨M,L,A,K⟩:=BI h5';have R:Gq h.o p=p:=by unfold Gq;rw [if_pos h5']
   have q:XV t h p=⟨dF h.o p,p.i.map λk=>h.values[k.toNat]?.getD []⟩:=by unfold XV;rw [if_pos bL]
   have Y:=xa4 Y R @Part.d.eq_1 @Part.c.eq_1 @Graph.d.eq_1 @Graph.c.eq_1;refine wv (h:=o8 (Ghosts.step (Ghosts.refl _) 3 0 2 27 1 _ _ (eu) rfl rfl rfl) (λi e H=>∃ a:Yb,(e 3=.adr t.c/\e 4=.adr h.c/\e 5=.adr p.c/\e 6=.ptr 0 1 0 0/\e 10=.ptr 1 1 0 0/\e 11=.ptr 2 1 0 0/\e 13=.ptr 3 1 0 0/\e 14=dI i)/\(H.get 0=some ⟨33,3,[[.nil,.nil,.nil]],false⟩)/\(0<H.next)/\(H.get 1=some ⟨30,2,[(dF h.o p).c],false⟩)/\(1<H.next)/\(H.get 2=some ⟨55,2,[p.c],false⟩)/\(2<H.next)/\(H.get 3=some ⟨33,3,[[dLI (dF h.o p).i,.list ((dF h.o p).j.map Edge.c),.own 4 a.length]],false⟩)/\(3<H.next)/\(H.get 4=some ⟨27,1,a.map cL,false⟩)/\(4<H.next)/\(i<=p.i.length)/\(a=(p.i.take i).map λk=>h.values[k.toNat]?.getD [])/\(a.length=i)) (λi=>p.i.length - i) 0 ⟨([]),wg,wn,wn,wn,wn,wn,wn,wn,wn,wn,wn,wi,(by rfl),(by rfl)⟩ λW F i e H D=>?_);obtain ⟨a,U,y,m,x,l,w,j,v,g,u,f,V,n,G⟩:=D;have Y:=xb0 Y U y (bU m) x (bU l) w (bU j) v (bU g) u (bU f);refine jH (λs=>?_) λs=>?_
   .have hk:=A _ (aC s);have b:p.i[i].toNat<h.values.length:=bL;have N:=(o _ (aC b)).1;have Y:=xa3 Y s (aA s) (aA b) @cL.eq_1;exact wp (h:=wx F (i+1) ⟨(a++[h.values[p.i[i].toNat]]),wg,wn,wn,wn,wn,wn,wn,wn,wn,wn,wn,wj,(by rw [fN _ s,<- n,aA b];rfl),et⟩)
   .have hVS:a=p.i.map λk=>h.values[k.toNat]?.getD []:=by rw [n,lK _ bL]
    exact wv (h:=E _ _ (by simp [go_sem,Y,z,q,h5',hVS,cL]))
theorem Cr (h:Host)(hn:h.o.i.length<=100000)(he:h.o.j.length<=100000)(hv:h.values.length<=100000)(S:∀ v∈h.values,v.length<=100000)(G:AHeap)(Q:D->AHeap->Prop)
  (hQ:∀ a b V qs H',HH H' G.next a b V qs h->(∀ j,j<G.next->H'.get j=G.get j)->G.next<=H'.next->Q (.agg [.own a h.o.i.length,.own b h.o.j.length,.own V h.values.length]) H'):ACalls prog 7 [h.d] G Q:=by
 refine (Tz.cK ⟨λt=>t==2||t==3||t==18||t==1000001,λr=>match r with|5=>[(0,2),(1,2),(2,3),(2,4),(2,6),(2,7),(0,8),(1,8),(0,9),(1,9)]|_=>[]⟩ func7 rfl ?_);have Y:=wa @Host.d.eq_1 @Host.c.eq_1;refine wv (h:=?_);unfold dQ;refine Ct h.o bL bL _ _ (λa b g ha W Z X U C B u y=>?_);simp [go_sem] at ha W y;have o:=u G.next eh;simp [go_sem] at o;have s:∀ j,j<G.next->g.get j=G.get j:=λj hj=>by
  rw [u j eq];simp [go_sem,(bL:j≠G.next)]
 have M:=Yy g.next;have I:=xa1 (bU (bL:a<g.next)) (bU (bL:b<g.next)) (bU (bL:G.next<g.next));have K:=xa1 (b8 (bL:G.next≠b)) (b8 (bL:G.next≠a)) (b8 (bL:b≠a));have Y:=xa5 Y I K C B o M;refine wv (h:=o8 (Ghosts.step (Ghosts.refl _) g.next 0 2 27 1 _ _ (eu) rfl rfl rfl) (λi e H=>∃ R:Nat,∃ c:Nat,∃ V:Nat,∃ qs:List Nat,(e 1=.adr h.c/\e 2=.ptr R 1 0 0/\e 3=.ptr c 1 0 0/\e 4=dI i)/\(H.get R=some ⟨33,3,[[.nil,.nil,.nil]],false⟩)/\(R<H.next)/\(H.get c=some ⟨33,3,[[.own a h.o.i.length,.own b h.o.j.length,.own V i]],false⟩)/\(c<H.next)/\(H.get V=some ⟨27,1,mA qs (h.values.take i),false⟩)/\(V<H.next)/\(i<=h.values.length)/\(HH H (G.next+1) a b V qs ⟨h.o,h.values.take i⟩)/\((a<c/\b<c/\c<V/\V<H.next/\R<a/\R<b/\R<c/\G.next<=R))/\(∀ q∈qs,V<q)/\(∀ j,j<G.next->H.get j=G.get j)/\(G.next<=H.next)) (λi=>h.values.length - i) 0 ⟨G.next,g.next,(g.next+1),([]),wg,wn,wn,wn,wn,(by simp [go_sem,Y,mA]),wn,wi,(by refine ⟨by simp [go_sem,Y],by simp [go_sem,Y],by simp [go_sem,mA],rfl,by simp,by simp;omega,by simp [go_sem];omega⟩),eq,(by intro q n;cases n),(by intro j hj;simp [go_sem,(bL:j≠g.next),(bL:j≠g.next+1)];exact s j hj),eq⟩ λI0 F i e H A=>?_);obtain ⟨R,c,V,qs,E0,gR_0,nR_0,w,l,gV_0,nV_0,hi,f,hc,n,L,T⟩:=A;have J:=xa8 (b8 (bL:R≠V)) (b8 (bL:R≠c)) (b8 (bL:R≠b)) (b8 (bL:R≠a)) (b8 (bL:V≠c)) (b8 (bL:V≠b)) (b8 (bL:V≠a)) (b8 (bL:c≠b)) (b8 (bL:c≠a)) (b8 (bL:b≠a));have Y:=xa8 Y @Host.c.eq_1 E0 gR_0 (bU nR_0) w (bU l) gV_0 (bU nV_0) J;refine jH (λk=>?_) λk=>?_
 .have hr8:=S _ (aC k);have p:∀ j∈a :: b :: qs,j≠V/\j≠c/\j<H.next:=λj hj=>by
   simp only [aP] at hj;rcases hj with rfl|rfl|hj
   .exact ⟨bL,bL,(f.W _ f.a6).2⟩
   .exact ⟨bL,bL,(f.W _ f.a2).2⟩
   .have:=n j hj;exact ⟨bL,bL,(f.W _ (f.ay hj)).2⟩
  have x:(mA qs (h.values.take i)).length=i:=by rw [kI f.len];simp;omega
  have Y:=xa3 Y k (aA k) @cL.eq_1 x;exact wp (h:=wx F (i+1) ⟨R,c,V,(qs++[H.next+2]),wg,wn,wn,wn,wn,(by rw [aD k,zO f.len];simp [go_sem,Y,cL]),wn,wj,(by rw [aD k];exact f.b2 ei bL (λj hj=>by have:=(f.W j hj).2;omega) eh cl (by simp [go_sem,Y,cL]) (λj hj=>by obtain ⟨P,O,N⟩:=p j hj;simp [go_sem,P,O,bU N])),eq,(by intro q m;rw [aQ,aX] at m;rcases m with h1|rfl;exact n q h1;omega),(by intro j hj;simp [go_sem,(bL:j≠H.next+2),(bL:j≠V),(bL:j≠c)];exact L j hj),eq⟩)
 .rw [aH bL] at f;have z:i=h.values.length:=bL;have E:∀ j∈a :: b :: V :: qs,j≠R:=λj hj=>by
   simp only [aP] at hj;rcases hj with rfl|rfl|rfl|hj
   .omega
   .omega
   .omega
   .have:=n j hj;omega
  refine wv (h:=?_);rw [z];exact hQ a b V qs _ ((f.df bL).same eh (λj hj=>by simp [go_sem,E j hj])) (λj hj=>by simp [go_sem,(bL:j≠R)];exact L j hj) eq
/-! ### exact numbers -/
def Iq (l l1:List Nat)(j:Nat):Nat:=if j∈l then l1[l.idxOf j]?.getD 0 else j
theorem DB {l a:List Nat}(e:l.Nodup){i j b:Nat}(h:l[i]?=some j)(f:a[i]?=some b):Iq l a j=b:=by
 obtain ⟨c,d⟩:=aL.1 h;unfold Iq;rw [if_pos (d ▸ aC c)];have:l.idxOf j=i:=by rw [<- d];exact e.idxOf_getElem i c
 rw [this,f];rfl
theorem AZ {l a:List Nat}{j:Nat}(h:j∉l):Iq l a j=j:=by unfold Iq;rw [if_neg h]
theorem Be {τ:Nat->Nat}{l:Xa1}(b:∀ c∈l,∀ y∈c,yC τ y=y):l.map (·.map (yC τ))=l:=by
 conv=>rhs;rw [<- List.map_id l]
 refine bY λc d=>?_;conv=>rhs;rw [id,<- List.map_id c]
 exact bY λy a=>b c d y a
theorem HH.exact {H H1 E:AHeap}{lo a0 a b V a1 b1 V1:Nat}{N t:List Nat}{x:Host}(G:HH E lo a b V N x)(M:HH H1 a0 a1 b1 V1 t x)
  (a2:∀ j,H.J j->j<H.next) (O:∀ j,¬ H.J j->H.get j=none) (Jq:H.next<=E.next)
  (g:∀ j,E.J j↔H.J j\/j∈a :: b :: V :: N) (Y:∀ j,H.J j->j∉a :: b :: V :: N->H1.get j=H.get j) (Q:∀ j,j∉a :: b :: V :: N->E.get j=H.get j)
  (f:∀ (i j F:Nat),(a :: b :: V :: N)[i]?=some j->(a1 :: b1 :: V1 :: t)[i]?=some F->(H.J j->F=j)/\(¬ H.J j->¬ H.J F)) :
  ∃ τ,Exact H H1 E τ/\.agg [.own a1 x.o.i.length,.own b1 x.o.j.length,.own V1 x.values.length]=Wo τ (.agg [.own a x.o.i.length,.own b x.o.j.length,.own V x.values.length])/\okC E.J (.agg [.own a x.o.i.length,.own b x.o.j.length,.own V x.values.length]):=by
 obtain ⟨l,A⟩:=cY (a :: b :: V :: N);obtain ⟨D,w⟩:=cY (a1 :: b1 :: V1 :: t);have u:=G.nd;have P:=M.nd;have W:=G.W;rw [<- A] at g Y Q f u W;rw [<- w] at f P;have a3:D.length=l.length:=by rw [A,w];simp [M.len,G.len]
 have o:∀ j∈l,∃ i F,l[i]?=some j/\D[i]?=some F/\Iq l D j=F:=λj B=>by
  obtain ⟨i,C,L⟩:=aM B;have m:l[i]?=some j:=by rw [aA C,L]
  have n:=aA (bL:i<D.length);exact ⟨i,_,m,n,DB u m n⟩
 have ra:Iq l D a=a1:=DB u (i:=0) (by rw [A];rfl) (by rw [w];rfl);have rb:Iq l D b=b1:=DB u (i:=1) (by rw [A];rfl) (by rw [w];rfl);have rV:Iq l D V=V1:=DB u (i:=2) (by rw [A];rfl) (by rw [w];rfl);have rq:∀ i q q1,N[i]?=some q->t[i]?=some q1->Iq l D q=q1:=λi q q1 e m=>DB u (i:=i+3) (by rw [A];exact e) (by rw [w];exact m);have cI_ren:∀ (v:Xa0),(v.map cI).map (·.map (yC (Iq l D)))=v.map cI:=λv=>Be λc r y s=>by
  rw [aS] at r;obtain ⟨z,_,rfl⟩:=r;simp [cI] at s;subst s;rfl
 have cI_ok:∀ (v:Xa0),∀ c∈v.map cI,∀ y∈c,okc E.J y:=λv c r y s=>by
  rw [aS] at r;obtain ⟨z,_,rfl⟩:=r;simp [cI] at s;subst s;rfl
 refine ⟨Iq l D,⟨λj B=>?_,λi j C B L=>?_,λj B=>⟨(g j).2 (.inl B),?_⟩,λj B=>?_,λj k I=>?_⟩,?_,?_⟩
 .rcases (g j).1 B with h|h
  .exact cH (a2 j h) Jq
  .exact (W j h).2
 .by_cases hi2:i∈l<;>by_cases d:j∈l
  .obtain ⟨p,S,m,n,R⟩:=o i hi2;obtain ⟨p',F,f1,f2,f3⟩:=o j d;rw [R,f3] at L;subst L;obtain ⟨u1,u2⟩:=aL.1 n;obtain ⟨v1,v2⟩:=aL.1 f2;have:p=p':=(vR P).1 (u2.trans v2.symm);subst this;rw [m] at f1;cases f1;rfl
  .obtain ⟨p,S,m,n,R⟩:=o i hi2;rw [R,AZ d] at L;subst L;have J:H.J S:=(((g S).1 B).resolve_right d);by_cases K:H.J i
   .exact ((f p i S m n).1 K).symm
   .exact absurd J ((f p i S m n).2 K)
  .obtain ⟨p,F,m,n,R⟩:=o j d;rw [R,AZ hi2] at L;subst L;have K:H.J i:=(((g i).1 C).resolve_right hi2);by_cases J:H.J j
   .exact (f p j i m n).1 J
   .exact absurd K ((f p j i m n).2 J)
  .rwa [AZ hi2,AZ d] at L
 .by_cases d:j∈l
  .obtain ⟨p,F,m,n,R⟩:=o j d;rw [R];exact (f p j F m n).1 B
  .exact AZ d
 .have h2:¬ H.J j/\j∉l:=⟨λh=>B ((g j).2 (.inl h)),λh=>B ((g j).2 (.inr h))⟩;rw [Q j h2.2];exact O j h2.1
 .by_cases d:j∈l
  .right
   have T:=d;rw [A,aP,aP,aP] at T;rcases T with rfl|rfl|rfl|hq
   .rw [G.ga] at I;cases I
    rw [ra];exact ⟨_,M.ga,rfl,rfl,rfl,(cI_ren _).symm,cI_ok _⟩
   .rw [G.gb] at I;cases I
    rw [rb];refine ⟨_,M.gb,rfl,rfl,rfl,(Be λc r y s=>?_).symm,λc r y s=>?_⟩
    .rw [aS] at r;obtain ⟨z,_,rfl⟩:=r;simp [Edge.c,dI] at s;rcases s with rfl|rfl|rfl<;>rfl
    .rw [aS] at r;obtain ⟨z,_,rfl⟩:=r;simp [Edge.c,dI] at s;rcases s with rfl|rfl|rfl<;>rfl
   .rw [G.gV] at I;cases I
    rw [rV];refine ⟨_,M.gV,rfl,rfl,rfl,?_,λc r y s=>?_⟩
    .apply fC;intro i;simp only [aW];by_cases C:i<x.values.length
     .have Z:=aA C;have m:=aA (show i<N.length by rw [G.len];exact C);have n:=aA (show i<t.length by rw [M.len];exact C);rw [t6 m Z,t6 n Z];simp [yC,rq i _ _ m n]
     .rw [bC (by rw [kI M.len];omega),bC (by rw [kI G.len];omega)];rfl
    .simp only [mA] at r;obtain ⟨i,C,rfl⟩:=aM r;rw [List.getElem_zipWith,aX] at s;subst s;show E.J _;exact (g _).2 (.inr (by rw [A];exact cZ _ (cZ _ (cZ _ (aC _)))))
   .obtain ⟨i,C,rfl⟩:=aM hq;have m:=aA C;have U:i<x.values.length:=by rw [<- G.len];exact C
    have Z:=aA U;have n:=aA (show i<t.length by rw [M.len];exact U);rw [G.gq i _ _ m Z] at I;cases I
    rw [rq i _ _ m n];exact ⟨_,M.gq i _ _ n Z,rfl,rfl,rfl,(cI_ren _).symm,cI_ok _⟩
  .left
   have X:=Q j d;rw [I] at X;have hA:H.J j:=bE λhn=>by rw [O j hn] at X;cases X
   exact ⟨hA,X.symm,(Y j hA d).trans X.symm⟩
 .simp [Wo,yC,ra,rb,rV]
 .intro c r;simp only [aP,dU,or_false] at r;rcases r with rfl|rfl|rfl
  .exact (g _).2 (.inr (by rw [A];simp))
  .exact (g _).2 (.inr (by rw [A];simp))
  .exact (g _).2 (.inr (by rw [A];simp))
theorem yG {j:Nat}{k:Blk}:∀ (q:List (Nat × Blk)) (H:AHeap),(q.map (·.1)).Nodup->(j,k)∈q->(H.ad q).get j=some k
 | p :: q,H,hn,hm=>by
  rw [gA,gC] at hn;rw [aP] at hm;simp only [AHeap.ad];rcases hm with rfl|hm
  .rw [qD q _ _ hn.1];simp [AHeap.push]
  .exact yG q _ hn.2 hm
def UC (qs:List Nat)(vs:Yb):List (Nat × Blk):=List.zipWith (λq (v:Xa0)=>(q,(⟨3,1,v.map cI,false⟩:Blk))) qs vs
theorem Io {a:List Nat}{vs:Yb}(h:a.length=vs.length):(UC a vs).map (·.1)=a:=by
 unfold UC;rw [List.map_zipWith];apply gF (by simp [h]);intro i c b;simp
theorem O3 {qs:List Nat}{vs:Yb}{i q:Nat}{v:Xa0}(h1:qs[i]?=some q)(h2:vs[i]?=some v):(q,(⟨3,1,v.map cI,false⟩:Blk))∈UC qs vs :=
 aK (i:=i) (by simp [UC,List.getElem?_zipWith,h1,h2])
def KS (a b V:Nat)(qs:List Nat)(h:Host):List (Nat × Blk):=(a,⟨3,1,h.o.i.map cI,false⟩) :: (b,⟨124,3,h.o.j.map Edge.c,false⟩) :: (V,⟨27,1,mA qs h.values,false⟩) :: UC qs h.values
theorem Qz {a b V:Nat}{c:List Nat}{h:Host}(d:c.length=h.values.length):(KS a b V c h).map (·.1)=a :: b :: V :: c:=by simp [KS,Io d]
theorem T5 {H:AHeap}{a b V:Nat}{d:List Nat}{h:Host}(l:d.length=h.values.length)(e:(a :: b :: V :: d).Nodup)(f:∀ j∈a :: b :: V :: d,j<H.next):HH (H.ad (KS a b V d h)) 0 a b V d h:=by
 have c:=Qz (a:=a) (b:=b) (V:=V) l;have g:((KS a b V d h).map (·.1)).Nodup:=by rw [c];exact e
 have k:(H.ad (KS a b V d h)).next=H.next:=rR _ _ λp n=>f p.1 (by rw [<- c];exact qI n);refine ⟨yG _ _ g (by simp [KS]),yG _ _ g (by simp [KS]),yG _ _ g (by simp [KS]),l,λi q v r o=>yG _ _ g ?_,e,λq m=>⟨dN _,by rw [k];exact f q m⟩⟩;exact cZ _ (cZ _ (cZ _ (O3 r o)))
theorem KR {md:Nat->Bool}{ops:Array Oper}{F:List (Nat × Nat)}{B i:Nat}{n:List Oper}{s:List (Nat × List Nat)}{e:dO}{r:Option Tmp}{K:dO->AHeap->Prop}{H:AHeap}
  (h:Host) (P:h.o.i.length<=100000) (Q:h.o.j.length<=100000) (N:h.values.length<=100000) (O:∀ v∈h.values,v.length<=100000)
  (a b V:Nat) (k:List Nat) (I:k.length=h.values.length) (w:(a :: b :: V :: k).Nodup) (x:B<=H.next) (q:∀ j∈a :: b :: V :: k,j<B/\¬ H.J j) (G:EI md r=true) (R:chk F i (a :: b :: V :: k) s)
  (S:∀ E,HH E 0 a b V k h->(∀ j,j∉a :: b :: V :: k->E.get j=H.get j)->(∀ j,E.J j↔H.J j\/j∈a :: b :: V :: k)->E.next=H.next ->
   kQ prog md ops F B (i+1) n ((i,a :: b :: V :: k) :: s) (nB e r (.agg [.own a h.o.i.length,.own b h.o.j.length,.own V h.values.length])) E K) :
  pZ prog md ops F B i n s e r K 7 [h.d] H:=by
 have c:=Qz (a:=a) (b:=b) (V:=V) I;unfold pZ;refine Or.inr ⟨G,.agg [.own a h.o.i.length,.own b h.o.j.length,.own V h.values.length],[],[],KS a b V k h,λp m=>absurd m (dU),λp m=>q p.1 (by rw [<- c];exact qI m),λt _ f=>?_,?_,?_⟩
 .have hf':∀ j∈a :: b :: V :: k,j<t.next/\¬ t.J j:=λj g=>by
   rw [<- c,aS] at g;obtain ⟨p,m,rfl⟩:=g;exact f p m
  refine ACalls.exact (E:=t.ad (KS a b V k h)) (Cr h P Q N O t (λd D=>∃ z y A l,HH D t.next z y A l h/\(∀ j,j<t.next->D.get j=t.get j)/\d=.agg [.own z h.o.i.length,.own y h.o.j.length,.own A h.values.length]) (λz y A l D C L _=>⟨z,y,A,l,C,L,rfl⟩)) ?_;rintro o u d D ⟨z,y,A,l,C,L,rfl⟩;refine HH.exact (T5 I w λj g=>(hf' j g).1) C o u ?_ (λj=>?_) (λj g _=>L j (o j g)) (λj g=>qD _ _ _ (by rw [c];exact g)) (λi j M e T=>⟨λJ=>absurd J (hf' j (aK e)).2,λ_ J=>?_⟩)
  .rw [rR _ _ λp m=>(f p m).1];exact aT _
  .rw [uS,c]
  .have:=(C.W M (aK T)).1;have:=o M J;omega
 .rw [c];exact R
 .rw [c];refine S _ (T5 I w λj g=>cH (q j g).1 x) (λj g=>qD _ _ _ (by rw [c];exact g)) (λj=>by rw [uS,c];rfl) (rR _ _ λp m=>cH (q p.1 (by rw [<- c];exact qI m)).1 x)
theorem P9 {α:Type}{f:α->Int}{m:Int}(h0:(0:Int)≠m)(h:∀ x,f x≠m):∀ l,iN f l≠m
 | []=>h0
 | x :: l=>by
  simp only [iN];split
  .exact h x
  .exact P9 h0 h l
theorem Uo (n:Int)(l:List Test):mE n l≠9:=by
 unfold mE;split
 .decide
 .split
  .decide
  .refine P9 (by decide) (λx=>?_) l;unfold vZ;split
   .decide
   .split<;>decide
structure PatOk (t:Types) (q:Pattern):Prop where
 vf:(cW t).2=0
 gg:graphF q.o=0
 ty:iB t q.o=true
 vars:0<=q.vars/\q.vars<=12
 bi:q.q.length<=10/\q.R.length<=10
 dk:∀ s∈q.q,iM t q s=0
 ck:∀ x∈q.R,vZ q.vars x=0
theorem IP {t:Types}{q:Pattern}(h:c7 t q=9\/c7 t q=0):PatOk t q:=by
 have i:=lX h;have k:=Lg t;have l:graphF q.o≠9:=by
  unfold graphF;repeat' split
  all_goals decide
 have j:=Uo q.vars q.R;unfold c7 at h;by_cases g:(cW t).2=0
 .rw [if_neg bL] at h;by_cases f:graphF q.o=0
  .rw [if_neg bL] at h;by_cases b:iB t q.o=false
   .rw [if_pos b] at h;omega
   .rw [if_neg b] at h;by_cases e:inF q.vars 0 12=false
    .rw [if_pos e] at h;omega
    .rw [if_neg e] at h;by_cases d:10<q.q.length\/10<q.R.length
     .rw [if_pos d] at h;omega
     .rw [if_neg d] at h;by_cases c:iN (iM t q) q.q=0
      .rw [if_neg bL] at h;by_cases a:mE q.vars q.R=0
       .refine ⟨g,f,by simpa using b,i,bL,rT c,rT ?_⟩;unfold mE at a;split at a
        .cases a
        .split at a
         .cases a
         .exact a
       .rw [if_pos a] at h;omega
      .rw [if_pos c] at h;omega
  .rw [if_pos f] at h;omega
 .rw [if_pos g] at h;omega
theorem OP {n:Int}{x:Term}(h:termB n x=true)(hn:0<=n):rF x n.toNat:=by
 simp only [termB,aR,decide_eq_true_eq] at h;exact ⟨⟨bL,bL⟩,bL,bL⟩
theorem PatOk.R {t:Types}{q:Pattern}(hp:PatOk t q):∀ x∈q.R,J6 x q.vars.toNat:=λx hx=>by
 have:=hp.ck x hx;unfold vZ at this;split at this
 .cases this
 .rename_i h1;split at this
  .rename_i h2;rw [aR] at h2;exact ⟨bL,OP h2.1 hp.vars.1,OP h2.2 hp.vars.1⟩
  .cases this
theorem PatOk.q {t:Types}{q:Pattern}(hp:PatOk t q):∀ s∈q.q,(0<=s.node/\s.node<q.o.i.length)/\(0<=s.Q/\s.Q<(bZ t (q.o.i[s.node.toNat]?.getD 0)).length)/\rF s.E q.vars.toNat:=λs hs=>by
 have:=hp.dk s hs;have hv:=hp.vars;unfold iM at this;split at this
 .rename_i h1;simp only [aR,mQ,decide_eq_true_eq,inF,Pattern.kind] at h1;exact ⟨h1.1.1.1,⟨h1.1.1.2.1,of_decide_eq_true h1.1.1.2.2⟩,⟨bL,bL⟩,bL,bL⟩
 .cases this
structure MOk (t:Types) (p g:Graph) (m:Part):Prop where
 len:m.i.length=p.i.length
 bO:m.j.length=p.j.length
 bn:∀ (i:Nat) (hi:i<m.i.length) (hp:i<p.i.length),(0<=m.i[i]/\m.i[i]<g.i.length)/\Ab t p.i[i] (g.i[m.i[i].toNat]?.getD 0)=true
 cE:∀ (i:Nat) (hi:i<m.j.length),0<=m.j[i]/\m.j[i]<g.j.length
theorem uV {t:Types}{p g:Graph}{m:Part}{b:Bool}(h:jY t p g m b=0):MOk t p g m:=by
 obtain ⟨⟨j,f⟩,e,d⟩:=BP h;refine ⟨j,f,λi a c=>⟨e _ (aC a),?_⟩,λi a=>d _ (aC a)⟩;unfold jY at h;rw [if_neg bL] at h;split at h
 .exact absurd h er
 .rename_i h5;have:=fF _ _ (cG h5) i (dN _) bL;unfold LZ at this;rw [aA a,aA c,aF,aF] at this;split at this
  .cases this
  .split at this
   .assumption
   .cases this
theorem Qr {S:Srch}{ns:Xa0}:∀ (d:Nat) (l es:Xa0),es∈G9 S ns d l->es.length=l.length+d/\(∀ x∈l,0<=x/\x<S.g.j.length->True)/\((∀ x∈l,0<=x/\x<S.g.j.length)->∀ x∈es,0<=x/\x<S.g.j.length)
 | 0,l,es,h=>by
  simp only [G9,aX] at h;subst h;exact ⟨rfl,λ_ _ _=>trivial,λh=>h⟩
 | d+1,l,es,h=>by
  simp only [G9,bM,dR,bN] at h;obtain ⟨k,⟨hk,_⟩,hr⟩:=h;obtain ⟨h1,_,h3⟩:=Qr d _ es hr;refine ⟨by simp at h1;omega,λ_ _ _=>trivial,λhl=>h3 λx hx=>?_⟩;rw [aQ,aX] at hx;rcases hx with hx|rfl
  .exact hl x hx
  .omega
theorem Qq {S:Srch}:∀ (d:Nat) (l:Xa0) (m:Part),m∈D4 S d l->m.i.length=l.length+d/\∀ i,l.length<=i->i<l.length+d->∃ k:Nat,m.i[i]?=some (k:Int)/\k<S.g.i.length/\Ab S.t (S.p.i[i]?.getD 0) (S.g.i[k]?.getD 0)=true
 | 0,l,m,h=>by
  simp only [D4,aS] at h;obtain ⟨es,_,rfl⟩:=h;exact ⟨rfl,λi h1 h2=>by omega⟩
 | d+1,l,m,h=>by
  have h':=h;simp only [D4,bM,dR,bN] at h;obtain ⟨k,⟨hk,ho⟩,hr⟩:=h;obtain ⟨h1,h2⟩:=Qq d _ m hr;simp at h1 h2;refine ⟨bL,λi h3 h4=>?_⟩;by_cases hi:i=l.length
  .subst hi;obtain ⟨⟨r,hr2⟩,_⟩:=Bs d _ m hr;refine ⟨k,by rw [hr2];simp,hk,?_⟩;simp only [LM,aR] at ho;exact ho.2.2
  .exact h2 i bL bL
theorem QX {S:Srch}{m:Part}(h:m∈Ad S):MOk S.t S.p S.g m:=by
 unfold Ad at h;obtain ⟨f,e⟩:=Qq _ _ m h;obtain ⟨_,q⟩:=Bs _ _ m h;obtain ⟨d,_,o⟩:=Qr _ _ _ q;simp at f e d;refine ⟨f,d,λi a l=>?_,λi a=>o (by intro x j;cases j) _ (aC a)⟩;obtain ⟨k,c,r,b⟩:=e i bL;rw [aA a] at c;have n:m.i[i]=(k:Int):=Option.some.inj c;rw [aA l,aF] at b;rw [n];exact ⟨bL,by simpa using b⟩
theorem Gz {t:Types}{h:Host}(ho:HostOk t h):∀ a∈h.o.i,0<=a/\a<t.i.length:=λa ha=>by
 obtain ⟨i,hi,rfl⟩:=aM ha;have:=ho.vl;exact ⟨((eI ho.gg).1 _ ha).1,(uY (ho.nd i hi bL)).1⟩
theorem Yi {t:Types}{q:Pattern}{h:Host}{m:Part}(hp:PatOk t q)(ho:HostOk t h)(hm:MOk t q.o h.o m):SOk q h m where
 vars:=hp.vars
 node s hs:=by have:=hp.q s hs;have:=hm.len;omega
 bn k hk:=by
  obtain ⟨i,hi,rfl⟩:=aM hk;have:=(hm.bn i hi (by have:=hm.len;omega)).1;have:=ho.vl;omega
 Q s hs:=by
  obtain ⟨h1,h2,_⟩:=hp.q s hs;have hl:=hm.len;have hi:s.node.toNat<m.i.length:=bL;have hq:s.node.toNat<q.o.i.length:=bL;obtain ⟨h3,h4⟩:=hm.bn _ hi hq;have hvl:=ho.vl;have hk:m.i[s.node.toNat].toNat<h.o.i.length:=bL;have hkv:m.i[s.node.toNat].toNat<h.values.length:=bL;rw [aA hi,aF,aA hkv,aF];rw [aA hq,aF] at h2;rw [aA hk,aF] at h4;have ha:=(p9 hp.gg hp.ty).1 _ (aC hq);have hb:=Gz ho _ (aC hk);rw [uE hp.vf ha.1 ha.2] at h2;have hrow:=(uY (ho.nd _ hk hkv)).2.2.1;rw [uE hp.vf hb.1 hb.2] at hrow;unfold Ab at h4;obtain ⟨r,hr⟩:=MI (pD hp.vf) (h.o.i[m.i[s.node.toNat].toNat]).toNat bL (q.o.i[s.node.toNat]).toNat (by rw [Int.toNat_of_nonneg ha.1];exact h4);rw [hr,aO] at hrow;omega
 aj l hl v hv:=(ho.row l hl).2 v hv
 E s hs:=(hp.q s hs).2.2
 ck:=hp.R
/-! ### values -/
def M3 (p:Pattern)(vs:Xa0):Xa0 × List Bool:=(vs++List.replicate (p.vars.toNat - vs.length) 0,List.replicate vs.length true++List.replicate (p.vars.toNat - vs.length) false)
theorem Hl (p:Pattern):M3 p []=(List.replicate p.vars.toNat 0,List.replicate p.vars.toNat false):=by simp [M3]
theorem eR {p:Pattern}{h:Host}{m:Part}{vs:Xa0}(a:kB h m (M3 p vs) p.q=none):eY p h m vs=([],11):=by
 unfold eY;unfold M3 at a;rw [a]
theorem qO {p:Pattern}{h:Host}{m:Part}{vs:Xa0}{q:Xa0 × List Bool}(a:kB h m (M3 p vs) p.q=some q):eY p h m vs=if p.R.all (λx=>B9 x q.1)=true then (q.1,0) else ([],16):=by
 unfold eY;unfold M3 at a;rw [a]
structure StOk (n:Nat) (st:Xa0 × List Bool):Prop where
 l1:st.1.length=n
 l2:st.2.length=n
 sm:∀ v∈st.1,-2000000<=v/\v<=2000000
theorem StOk.aE {n:Nat}{st:Xa0 × List Bool}(h:StOk n st):Sm st.1:=λv hv=>by have:=h.sm v hv;omega
theorem OS {p:Pattern}{vs:Xa0}(b:0<=p.vars)(c:vs.length<=p.vars.toNat)(a:∀ v∈vs,-2000000<=v/\v<=2000000):StOk p.vars.toNat (M3 p vs):=by
 refine ⟨by simp [M3];omega,by simp [M3];omega,λv h=>?_⟩;simp only [M3,aQ,List.mem_replicate] at h;rcases h with h|h
 .exact a v h
 .omega
theorem AU {n:Nat}{h:Host}{m:Part}{st:Xa0 × List Bool}{s:Slot}(a:StOk n st)(e : -1000000<=mN h m s/\mN h m s<=1000000)(c:rF s.E n):StOk n (mY h m st s):=by
 unfold mY;split
 .refine ⟨by simp [a.l1],by simp [a.l2],λv b=>?_⟩;rcases lE b with d|rfl
  .exact a.sm v d
  .have:=c.2;omega
 .exact a
theorem SOk.bt {p:Pattern}{h:Host}{m:Part}(d:SOk p h m){s:Slot}(e:s∈p.q) : -1000000<=mN h m s/\mN h m s<=1000000:=by
 have g:=d.node s e;have a:s.node.toNat<m.i.length:=bL;have i:=d.bn _ (aC a);have b:(m.i[s.node.toNat]).toNat<h.values.length:=bL;have f:=d.Q s e;unfold mN;rw [aA a,aF,aA b,aF] at f ⊢;have c:s.Q.toNat<(h.values[(m.i[s.node.toNat]).toNat]).length:=bL;rw [aA c];exact d.aj _ (aC b) _ (aC c)
theorem Lp {p:Pattern}{h:Host}{m:Part}(hO:SOk p h m):∀ (l:List Slot) (st q:Xa0 × List Bool),(∀ s∈l,s∈p.q)->StOk p.vars.toNat st->kB h m st l=some q->StOk p.vars.toNat q
 | [],st,q,_,hst,hq=>by simp only [kB,bG] at hq;exact hq ▸ hst
 | s :: l,st,q,hl,hst,hq=>by
  simp only [kB] at hq;split at hq
  .have hs:=hl s (j5 ..);exact Lp hO l _ q (λx hx=>hl x (cZ _ hx)) (AU hst (hO.bt hs) (hO.E s hs)) hq
  .cases hq
theorem CH {p:Pattern}{h:Host}{m:Part}(d:SOk p h m){vs:Xa0}(f:vs.length<=p.vars.toNat)(e:∀ v∈vs,-2000000<=v/\v<=2000000)(a:(eY p h m vs).2=0) :
  (eY p h m vs).1.length=p.vars.toNat/\∀ v∈(eY p h m vs).1,-2000000<=v/\v<=2000000:=by
 cases b:kB h m (M3 p vs) p.q with
 | none=>rw [eR b] at a;cases a
 | some q =>
  have c:=Lp d _ _ _ (λ_ h=>h) (OS d.vars.1 f e) b;rw [qO b] at a ⊢;split at a
  .rename_i h1;rw [if_pos h1];exact ⟨c.l1,c.sm⟩
  .cases a
theorem nX (q:Pattern)(h:Host)(a:Xa0)(l:List Part)(x:Part):uJ q h a (l++[x])=uJ q h a l++if (eY q h x a).2=0 then [⟨x,(eY q h x a).1⟩] else []:=by
 unfold uJ;rw [List.filterMap_append];congr 1;simp only [List.filterMap_cons,List.filterMap_nil];split<;>simp_all
theorem lH (o:Option Bool):(Option.map cB o).getD [D.bool false]=cB (o.getD false):=by cases o<;>rfl
theorem DE (p:Pattern)(h:Host)(m:Part)(M:SOk p h m):Pua 210 [p.d,h.d,m.d] (.tup [dLI (eY p h m []).1,dI (eY p h m []).2]):=by
 have hv:=M.vars;have h0:=OS (vs:=[]) hv.1 bS bS;rw [Hl] at h0;refine Tz.pK ⟨λt=>t==11,λ_=>[]⟩ func210 rfl (λQ O=>?_);have Y:=xa5 @Pattern.d.eq_1 @Pattern.c.eq_1 @Host.d.eq_1 @Host.c.eq_1 @Part.d.eq_1 @Part.c.eq_1 @Term.c.eq_1;refine wp (h:=bA (λi e H=>∃ l:Xa0 × List Bool,(e 3=.adr p.c/\e 4=.adr h.c/\e 5=.adr m.c/\e 8=.own 0 p.vars.toNat/\e 9=.own 1 p.vars.toNat/\e 10=dI i)/\(H.get 0=some ⟨3,1,l.1.map cI,false⟩)/\(0<H.next)/\(H.get 1=some ⟨4,1,l.2.map cB,false⟩)/\(1<H.next)/\(i<=p.q.length)/\(StOk p.vars.toNat l)/\(kB h m (M3 p []) (p.q.take i)=some l)) (λi=>p.q.length - i) 0 ⟨((List.replicate p.vars.toNat 0,List.replicate p.vars.toNat false)),wg,(by simp [go_sem,cI]),wn,(by simp [go_sem,cB]),wn,wi,(by exact h0),(by rw [Hl];rfl)⟩ λI0 B i e H a2=>?_);obtain ⟨l,E0,X,S,V,P,hi,q,G⟩:=a2;have Y:=xa4 Y E0 X (bU S) V (bU P);refine wv (h:=?_);repeat first|intro _|refine ⟨fY,?_⟩
 refine wq (λC=>?_) λC=>?_
 .obtain ⟨x,T⟩:=cY (p.q[i]);have z:x∈p.q:=T ▸ aC C;have hn:=M.node x z;have r:x.node.toNat<m.i.length:=bL;have Z:=M.bn _ (aC r);have v:(m.i[x.node.toNat]).toNat<h.values.length:=bL;have ha:=M.Q x z;rw [aA r,aF,aA v,aF] at ha;have A:x.Q.toNat<(h.values[(m.i[x.node.toNat]).toNat]).length:=bL;have hV:mN h m x=h.values[(m.i[x.node.toNat]).toNat][x.Q.toNat]:=by unfold mN;rw [aA r,aF,aA v,aF,aA A];rfl
  have hb:=M.bt z;have K:=M.E x z;have u:=q.l1;have I:=q.l2;have a5:=K.1;have a6:=K.2;have n:=v6 C G;rw [<- T] at n;obtain ⟨o,f⟩:∃ y,y=mY h m l x:=⟨_,rfl⟩;have j:StOk p.vars.toNat o:=f ▸ AU q hb K;rw [<- f] at n;have g:¬ 0<=x.E.var->o=l:=λhn=>by rw [f];unfold mY lZ;rw [if_neg (fg hn)]
  have E:0<=x.E.var->x.E.var.toNat<l.2.length:=λhn=>by omega
  obtain ⟨kb,U⟩:=cY (l.2[x.E.var.toNat]?.getD false);have J:0<=x.E.var\/(¬ 0<=x.E.var/\l.2[x.E.var.toNat]?=none)\/(¬ 0<=x.E.var/\l.2[x.E.var.toNat]?=some kb):=by
   by_cases F:0<=x.E.var
   .exact .inl F
   .right
    cases ho:l.2[x.E.var.toNat]? with
    | none=>exact .inl ⟨F,rfl⟩
    | some b=>rw [ho] at U;exact .inr ⟨F,by rw [U];rfl⟩
  rcases J with hc|hc|hc
  .have Y:=xa3 Y C (aA C) (Eq.symm T) (xb0 (aA r) (aA v) (aA A) (Eq.symm hV) @Slot.c.eq_1 @cL.eq_1 u I @lH @cB.eq_1 hc ((aA (E hc))));refine jH (λh9=>?_) λh9=>?_
   .have hF:lZ l x=true:=by simp only [lZ,aR,decide_eq_true_eq,b7];exact ⟨hc,by simpa [aA (E hc)] using h9⟩
    unfold mY at f;rw [if_pos hF] at f;have a0:x.E.var.toNat<l.1.length:=bL;have e1:o.1.map cI=(l.1.map cI).set x.E.var.toNat (cI (mN h m x - x.E.add)):=by rw [f,c8]
    have e2:o.2.map cB=(l.2.map cB).set x.E.var.toNat (cB true):=by rw [f,c8]
    have a4:D.T ((l.1.map cI).set x.E.var.toNat [D.int .i64 (mN h m x - x.E.add)])=true:=by have:=sD o.1;rw [e1] at this;exact this
    have Y:=xa5 Y e1 e2 @dLI.eq_1 @cI.eq_1 (aA a0) a4;refine wp (h:=eF (sO x.E o.1 (by rw [j.l1];exact K) j.aE) wr wl rfl ?_);refine jH (λa=>?_) λa=>?_
    .have hR:=eR (n.2 (by first|simpa using a|simpa [g hc.1] using a|simpa [f] using a));exact wv (h:=O _ _ (eD hR))
    .have hstep:=n.1 (by first|simpa using a|simpa [g hc.1] using a|simpa [f] using a);exact wp (h:=wx B (i+1) ⟨o,wg,cl,wn,cl,wn,wj,(by exact j),(by exact hstep)⟩)
   .have hF:¬ lZ l x=true:=by simp only [lZ,aR,decide_eq_true_eq,b7];rintro ⟨_,Z⟩;simp [aA (E hc)] at Z;simp [Z] at h9
    unfold mY at f;rw [if_neg hF] at f;have Y:=wa Y f;refine wv (h:=eF (sO x.E o.1 (by rw [j.l1];exact K) j.aE) wr wl rfl ?_);refine dD (λa=>?_) λa=>?_
    .have hR:=eR (n.2 (by first|simpa using a|simpa [g hc.1] using a|simpa [f] using a));exact wv (h:=O _ _ (eD hR))
    .have hstep:=n.1 (by first|simpa using a|simpa [g hc.1] using a|simpa [f] using a);exact wp (h:=wx B (i+1) ⟨o,wg,cl,wn,cl,wn,wj,(by exact j),(by exact hstep)⟩)
  .have Y:=xa4 Y C (aA C) (Eq.symm T) (aA r) (xb0 (aA v) (aA A) (Eq.symm hV) @Slot.c.eq_1 @cL.eq_1 u I @lH @cB.eq_1 hc.1 hc.2 (g hc.1));refine wp (h:=eF (sO x.E o.1 (by rw [j.l1];exact K) j.aE) wr wl rfl ?_);refine jH (λa=>?_) λa=>?_
   .have hR:=eR (n.2 (by first|simpa using a|simpa [g hc.1] using a|simpa [f] using a));exact wv (h:=O _ _ (eD hR))
   .have hstep:=n.1 (by first|simpa using a|simpa [g hc.1] using a|simpa [f] using a);exact wp (h:=wx B (i+1) ⟨o,wg,cl,wn,cl,wn,wj,(by exact j),(by exact hstep)⟩)
  .have Y:=xa4 Y C (aA C) (Eq.symm T) (aA r) (xb0 (aA v) (aA A) (Eq.symm hV) @Slot.c.eq_1 @cL.eq_1 u I @lH @cB.eq_1 hc.1 hc.2 (g hc.1));refine wp (h:=eF (sO x.E o.1 (by rw [j.l1];exact K) j.aE) wr wl rfl ?_);refine jH (λa=>?_) λa=>?_
   .have hR:=eR (n.2 (by first|simpa using a|simpa [g hc.1] using a|simpa [f] using a));exact wv (h:=O _ _ (eD hR))
   .have hstep:=n.1 (by first|simpa using a|simpa [g hc.1] using a|simpa [f] using a);exact wp (h:=wx B (i+1) ⟨o,wg,cl,wn,cl,wn,wj,(by exact j),(by exact hstep)⟩)
 .rw [aH bL] at G;have L:=qO G;have u:=q.l1;have Y:=wa Y u;refine wv (h:=bA (λk e H=>(e 3=.adr p.c/\e 4=.adr h.c/\e 5=.adr m.c/\e 8=.own 0 p.vars.toNat/\e 14=dI k)/\(H.get 0=some ⟨3,1,l.1.map cI,false⟩)/\(0<H.next)/\(k<=p.R.length)/\((p.R.take k).all (λx=>B9 x l.1)=true)) (λk=>p.R.length - k) 0 ⟨wg,wn,wn,wi,(by rfl)⟩ λI2 a3 k e H a1=>?_);obtain ⟨E2,W,R,Z,w⟩:=a1;have Y:=xa2 Y E2 W (bU R);refine wv (h:=?_);repeat first|intro _|refine ⟨fY,?_⟩
  refine wq (λs=>?_) λs=>?_
  .have Y:=xa2 Y s (aA s) @Test.c.eq_1;refine wp (h:=eF (PA p.R[k] l.1 (by rw [q.l1];exact M.ck _ (aC s)) q.aE) wr wl rfl ?_);refine jH (λN=>?_) λN=>?_
   .have hR:eY p h m []=([],16):=by
     rw [L,if_neg];intro ha;rw [cF] at ha;have:=ha _ (aC s);simp [this] at N
    exact wv (h:=O _ _ (eD hR))
   .exact wp (h:=wx a3 (k+1) ⟨wg,wn,wn,wj,(by rw [aD s,pC,w];simp;simpa using N)⟩)
  .rw [aH bL] at w;rw [if_pos w] at L;exact wv (h:=O _ _ (by simp [go_sem,Y,L,dLI]))
def sW (t:Types)(p:Pattern)(h:Host):Int:=if c7 t p≠0 then c7 t p else dH t h
theorem Gi (t:Types)(b:t.ok)(p:Pattern)(h:Host):Pua 208 [t.d,p.d,h.d] (dI (sW t p h)):=by
 refine Tz.p0 func208 rfl λQ e _=>?_;have Y:=wa @Host.d.eq_1 @Host.c.eq_1;refine wv (h:=aB (wA t b p) wl ?_);refine dD (λa=>?_) λa=>?_
 .exact wv (h:=e _ _ (by simp [go_sem,sW,a]))
 .refine wv (h:=aB (qB t b h) wl ?_);exact wv (h:=e _ _ (by simp [go_sem,sW,a,dH]))
theorem Pl (t:Types)(i:t.ok)(p:Pattern)(h:Host)(m:Part):Pua 212 [t.d,p.d,h.d,m.d] (.tup [dLI (eJ t p h m).1,dI (eJ t p h m).2]):=by
 refine Tz.p0 func212 rfl λQ g _=>?_;have Y:=xa2 @Pattern.d.eq_1 @Pattern.c.eq_1 @Host.d.eq_1 @Host.c.eq_1;refine wv (h:=aB (Gi t i p h) wl ?_);refine dD (λa=>?_) λa=>?_
 .have e:eJ t p h m=([],sW t p h):=by
   unfold eJ sW;unfold sW at a;by_cases b:c7 t p=0
   .rw [if_neg bL] at a ⊢;rw [if_pos a,if_neg bL]
   .rw [if_pos b,if_pos b]
  exact wv (h:=g _ _ (eD e))
 .have hp0:c7 t p=0:=by
   unfold sW at a;refine bE λb=>?_;rw [if_pos b] at a;exact b a
  have f:dH t h=0:=by unfold sW at a;rw [if_neg bL] at a;exact a
  refine wv (h:=aB (A3 t i p.o h.o m false) wl ?_);refine dD (λj=>?_) λj=>?_
  .have e:eJ t p h m=([],fX t p.o h.o m false):=by unfold eJ;rw [if_neg bL,if_neg bL,if_pos j]
   exact wv (h:=g _ _ (eD e))
  .have h5':fX t p.o h.o m false=0:=bL;have e:eJ t p h m=eY p h m []:=by unfold eJ;rw [if_neg bL,if_neg bL,if_neg bL]
   refine wv (h:=aB (DE p h m (Yi (IP (.inr hp0)) (rW f) (uV (uD h5').2))) wl ?_);exact wv (h:=g _ _ (eD e))
theorem T3 (l:List Part):(FB l).1.length<=5000:=by
 unfold FB;split
 .simp
 .simp only;omega
theorem J1 (t:Types)(p g:Graph)(a:Bool):(lD t p g a).1.length<=5000:=by
 unfold lD;split
 .simp
 .exact T3 _
theorem TW (t:Types)(p g:Graph)(q:Part)(a:Bool):(o9 t p g q a).1.length<=5000:=by
 unfold o9;split
 .simp
 .split
  .simp
  .split
   .simp
   .split
    .simp
    .exact T3 _
theorem MK {t:Types}{p g:Graph}{a:Bool}{m:Part}(h:m∈(lD t p g a).1):MOk t p g m:=by
 unfold lD at h;split at h
 .cases h
 .unfold FB at h;split at h
  .cases h
  .exact QX (S:=⟨t,p,g,_,_,a⟩) (bJ h)
theorem KC (t:Types)(F:t.ok)(p:Pattern)(h:Host)(a:Bool):Pua 142 [t.d,p.d,h.d,.bool a] (.tup [.list ((eO t p h a).1.map Mat.c),dI (eO t p h a).2]):=by
 refine Tz.pK ⟨λt=>t==13,λ_=>[]⟩ func142 rfl (λQ D=>?_);have Y:=xa2 @Pattern.d.eq_1 @Pattern.c.eq_1 @Host.d.eq_1 @Host.c.eq_1;refine wv (h:=aB (Gi t F p h) wl ?_);refine dD (λf=>?_) λf=>?_
 .have hS:eO t p h a=([],sW t p h):=by
   unfold eO sW;unfold sW at f;by_cases r:c7 t p=0
   .rw [if_neg bL] at f ⊢;rw [if_pos f,if_neg bL]
   .rw [if_pos r,if_pos r]
  exact wv (h:=D _ _ (eD hS))
 .have hp0:c7 t p=0:=by
   unfold sW at f;refine bE λr=>?_;rw [if_pos r] at f;exact r f
  have C:dH t h=0:=by unfold sW at f;rw [if_neg bL] at f;exact f
  have l:∀ x∈(lD t p.o h.o a).1,MOk t p.o h.o x:=λx J=>MK J;refine wv (h:=aB (UO t F p.o h.o a) wl ?_);refine dD (λI=>?_) λI=>?_
  .have hS:eO t p h a=([],(lD t p.o h.o a).2):=by unfold eO;rw [if_neg bL,if_neg bL,if_pos I]
   exact wv (h:=D _ _ (eD hS))
  .have hS:eO t p h a=(uJ p h [] (lD t p.o h.o a).1,0):=by unfold eO;rw [if_neg bL,if_neg bL,if_neg bL]
   obtain ⟨L,G⟩:=cY ((lD t p.o h.o a).1);have m:=J1 t p.o h.o a;rw [<- G] at hS l m;have E:=l;have Y:=wa Y (Eq.symm G);refine wv (h:=bA (λi e H=>∃ k:List Mat,(e 4=.adr t.c/\e 5=.adr p.c/\e 6=.adr h.c/\e 3=.bool a/\e 11=.list (L.map Part.c)/\e 13=.own 0 k.length/\e 14=dI i)/\(H.get 0=some ⟨78,3,k.map Mat.c,false⟩)/\(0<H.next)/\(i<=L.length)/\(k=uJ p h [] (L.take i))/\(k.length<=i)/\(L.length<=5000)) (λi=>L.length - i) 0 ⟨([]),wg,wn,wn,wi,(by rfl),(by simp),(by exact m)⟩ λO u i e H B=>?_);obtain ⟨k,M,w,q,N,j,K,s⟩:=B;have Y:=xa2 Y M w (bU q);refine jH (λo=>?_) λo=>?_
   .obtain ⟨v,z⟩:=cY (eY p h L[i] []);obtain ⟨g,b⟩:∃ y,y=k++if v.2=0 then [(⟨L[i],v.1⟩:Mat)] else []:=⟨_,rfl⟩
    have Y:=xa2 Y o (aA o) @Part.c.eq_1;refine wp (h:=aJ ((by have A:=DE p h L[i] (Yi (IP (.inr hp0)) (rW C) (E _ (aC o)));rw [<- z] at A;unfold Pattern.d Pattern.c Host.d Host.c Part.d Part.c dLI dI at A;exact A)) wl ?_);refine jH (λn=>?_) λn=>?_
    .have hm3:g=k++[⟨L[i],v.1⟩]:=by rw [b,if_pos (cG n)]
     have Y:=xa1 Y hm3 @Mat.c.eq_1;exact wp (h:=wx u (i+1) ⟨g,wg,wn,wn,wj,(by rw [aD o,nX,<- j,<- z];exact b),(by rw [b];split<;>simp<;>omega),(by exact s)⟩)
    .have hm3:g=k:=by rw [b,if_neg (cG n),dG]
     have Y:=wa Y hm3;exact wp (h:=wx u (i+1) ⟨g,wg,wn,wn,wj,(by rw [aD o,nX,<- j,<- z];exact b),(by rw [b];split<;>simp<;>omega),(by exact s)⟩)
   .rw [aH bL] at j;exact wv (h:=D _ _ (by simp [go_sem,Y,hS,<- j]))
end Go.Abs
end

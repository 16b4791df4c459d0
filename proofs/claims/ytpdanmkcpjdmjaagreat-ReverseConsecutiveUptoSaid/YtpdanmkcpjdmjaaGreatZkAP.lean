/- Hosts: what a valid one is; a host that lies in owned slices -/
import Derived.Test.YtpdanmkcpjdmjaaGreatZkAF
import Derived.Test.YtpdanmkcpjdmjaaGreatZkAA
import Derived.Test.YtpdanmkcpjdmjaaGreatZkAK
import Derived.Test.YtpdanmkcpjdmjaaGreatZkAO
set_option linter.unusedVariables false
set_option linter.unusedSimpArgs false
section
set_option maxRecDepth 100000
set_option maxHeartbeats 4000000
open Go Go.Proofs Tryz
namespace Go.Abs
theorem tL {t:Types}(b:(cW t).2=0){a:Int}(d:0<=a)(c:a<t.h.length):bI t a=t.r a.toNat:=by
 unfold bI;rw [if_pos];simp [given2F,b,insideF,d,c]
theorem rH {t:Types}(b:(cW t).2=0)(a:Int):(bI t a).length<=8:=by
 by_cases h:0<=a/\a<t.h.length
 .rw [tL b h.1 h.2];exact (mW b).r _ aD
 .unfold bI;rw [if_neg (by simp [given2F,b,insideF];omega)];simp
theorem DT {t:Types}(b:(cW t).2=0)(a:Int):∀ x∈bI t a,SmallA x:=by
 by_cases h:0<=a/\a<t.h.length
 .rw [tL b h.1 h.2];exact Qe b _ aD
 .unfold bI;rw [if_neg (by simp [given2F,b,insideF];omega)];simp
structure HostOk (t:Types) (h:Host):Prop where
 vf:(cW t).2=0
 gg:graphF h.j=0
 vl:h.k.length=h.j.h.length
 nd:∀ (i:Nat) (hi:i<h.j.h.length) (hv:i<h.k.length),iJ t h.j.h[i] h.k[i]=0
 ed:∀ x∈h.j.i,x.type<t.i.length/\o6 t x.type (gN h.j x.w) (gN h.j x.M)=true
theorem lE {t:Types}{h:Host}(a:fX t h=0):HostOk t h:=by
 unfold fX oY at a;split at a
 .rename_i h1;exact absurd a h1
 .rename_i h1;split at a
  .rename_i h2;exact absurd a h2
  .rename_i h2;split at a
   .cases a
   .rename_i h3;split at a
    .rename_i h4;exact absurd a h4
    .rename_i h4;rw [gU] at h4;rw [vL] at h4 a;refine ⟨aD,aD,aD,λi e c=>?_,λx b=>?_⟩
     .have:=eI _ _ h4 i (eB _) aD;simpa only [Gs,aA e,aA c,Option.getD_some] using this
     .obtain ⟨k,d,rfl⟩:=aQ b;have:=eI _ _ a k (eB _) aD;simp only [Um,aA d,Option.getD_some] at this;split at this
      .cases this
      .split at this
       .exact ⟨aD,by assumption⟩
       .cases this
theorem p8 {t:Types}{k:Int}{vs:W3}(h:iJ t k vs=0):k<t.h.length/\nI t k.toNat=false/\vs.length=(bI t k).length /\
  ∀ (j:Nat) (a:j<vs.length) (b:j<(bI t k).length),(bI t k)[j].aw<=vs[j]/\vs[j]<=(bI t k)[j].ax:=by
 unfold iJ at h;split at h
 .cases h
 .rename_i h1;split at h
  .cases h
  .rename_i h2;split at h
   .cases h
   .rename_i h3;refine ⟨aD,by simpa using h2,aD,λj a b=>?_⟩;have:=eI _ _ h j (eB _) aD;simp only [Dk,aA a,aA b,Option.getD_some] at this;split at this
    .cases this
    .omega
theorem HostOk.row {t:Types}{h:Host}(ho:HostOk t h):∀ v∈h.k,v.length<=8/\∀ x∈v,-1000000<=x/\x<=1000000:=λv hv=>by
 obtain ⟨i,hi,rfl⟩:=aQ hv;have hn:=ho.vl;obtain ⟨h1,h2,h3,h4⟩:=p8 (ho.nd i aD hi);have hl:=rH ho.vf (h.j.h[i]' aD);refine ⟨aD,λx hx=>?_⟩;obtain ⟨j,hj,rfl⟩:=aQ hx;have:=h4 j hj aD;have hs:=DT ho.vf _ _ (aC (show j<(bI t (h.j.h[i]' aD)).length by omega));have:=hs.lo;have:=hs.hi;omega
/-! ### a host in owned slices -/
def lL (qs:List Nat)(vs:Yb):UE:=List.zipWith (λq (v:W3)=>[D.own q v.length]) qs vs
theorem jJ {a:List Nat}{vs:Yb}(h:a.length=vs.length):(lL a vs).length=vs.length:=by simp [lL,h]
theorem yF {a:List Nat}{vs:Yb}(h:a.length=vs.length)(q:Nat)(v:W3):lL (a++[q]) (vs++[v])=lL a vs++[[.own q v.length]]:=by
 simp [lL,List.zipWith_append h]
theorem tE {a:List Nat}{vs:Yb}{i q:Nat}{v:W3}(c:a[i]?=some q)(b:vs[i]?=some v):(lL a vs)[i]?=some [.own q v.length]:=by
 simp [lL,List.getElem?_zipWith,c,b]
theorem Tx {a:List Nat}{vs:Yb}{i:Nat}{v b:W3}(c:vs[i]?=some v)(d:b.length=v.length):lL a (vs.set i b)=lL a vs:=by
 apply fL;intro j;simp only [lL,List.getElem?_zipWith,dA];by_cases h:i=j
 .subst h;have e:=(aP.1 c).1;rw [if_pos rfl,if_pos e,c];cases a[i]?<;>simp [d]
 .rw [if_neg h]
structure HH (H:AHeap) (lo a b V:Nat) (qs:List Nat) (h:Host):Prop where
 ga:H.get a=some ⟨3,1,h.j.h.map cI,false⟩
 gb:H.get b=some ⟨134,3,h.j.i.map Edge.c,false⟩
 gV:H.get V=some ⟨48,1,lL qs h.k,false⟩
 len:qs.length=h.k.length
 gq:∀ (i q:Nat) (v:W3),qs[i]?=some q->h.k[i]?=some v->H.get q=some ⟨3,1,v.map cI,false⟩
 nd:(a :: b :: V :: qs).Nodup
 W:∀ q∈a :: b :: V :: qs,lo<=q/\q<H.next
section
variable {H H':AHeap} {lo a b V:Nat} {qs:List Nat} {x:Host}
theorem HH.aO (h:HH H lo a b V qs x):a∈a :: b :: V :: qs:=dB
theorem HH.aN (h:HH H lo a b V qs x):b∈a :: b :: V :: qs:=dB
theorem HH.aV (h:HH H lo a b V qs x):V∈a :: b :: V :: qs:=dB
theorem HH.aI (h:HH H lo a b V qs x){q:Nat}(c:q∈qs):q∈a :: b :: V :: qs:=by simp [c]
theorem HH.ab (h:HH H lo a b V qs x):a≠b/\a≠V/\b≠V:=by
 have:=h.nd;simp only [g9,Abs.aV,not_or] at this;exact ⟨this.1.1,this.1.2.1,this.2.1.1⟩
theorem HH.qn (h:HH H lo a b V qs x){q:Nat}(c:q∈qs):q≠a/\q≠b/\q≠V:=by
 have:=h.nd;simp only [g9,Abs.aV,not_or] at this;exact ⟨λe=>this.1.2.2 (e ▸ c),λe=>this.2.1.2 (e ▸ c),λe=>this.2.2.1 (e ▸ c)⟩
theorem HH.dd (h:HH H lo a b V qs x){lo':Nat}(hl:lo'<=lo):HH H lo' a b V qs x:=⟨h.ga,h.gb,h.gV,h.len,h.gq,h.nd,λq hq=>⟨dH hl (h.W q hq).1,(h.W q hq).2⟩⟩
theorem HH.same (h:HH H lo a b V qs x)(hn:H.next<=H'.next)(hf:∀ j∈a :: b :: V :: qs,H'.get j=H.get j):HH H' lo a b V qs x where
 ga:=(hf a h.aO).trans h.ga
 gb:=(hf b h.aN).trans h.gb
 gV:=(hf V h.aV).trans h.gV
 len:=h.len
 gq i q v h1 h2:=(hf q (h.aI (aL h1))).trans (h.gq i q v h1 h2)
 nd:=h.nd
 W q hq:=⟨(h.W q hq).1,cO (h.W q hq).2 hn⟩
theorem HH.h (h:HH H lo a b V qs x)(hn:H.next<=H'.next){ns:W3}(ga:H'.get a=some ⟨3,1,ns.map cI,false⟩)(hf:∀ j∈b :: V :: qs,H'.get j=H.get j):HH H' lo a b V qs ⟨⟨ns,x.j.i⟩,x.k⟩ where
 ga:=ga
 gb:=(hf b dB).trans h.gb
 gV:=(hf V dB).trans h.gV
 len:=h.len
 gq i q v h1 h2:=(hf q (by simp [aL h1])).trans (h.gq i q v h1 h2)
 nd:=h.nd
 W q hq:=⟨(h.W q hq).1,cO (h.W q hq).2 hn⟩
theorem HH.i (h:HH H lo a b V qs x)(hn:H.next<=H'.next){es:List Edge}(gb:H'.get b=some ⟨134,3,es.map Edge.c,false⟩)(hf:∀ j∈a :: V :: qs,H'.get j=H.get j):HH H' lo a b V qs ⟨⟨x.j.h,es⟩,x.k⟩ where
 ga:=(hf a dB).trans h.ga
 gb:=gb
 gV:=(hf V dB).trans h.gV
 len:=h.len
 gq i q v h1 h2:=(hf q (by simp [aL h1])).trans (h.gq i q v h1 h2)
 nd:=h.nd
 W q hq:=⟨(h.W q hq).1,cO (h.W q hq).2 hn⟩
theorem HH.bU (h:HH H lo a b V qs x)(hn:H.next<=H'.next){q:Nat}{v:W3}(hlo:lo<=q)(hq:∀ j∈a :: b :: V :: qs,j≠q)(hq2:q<H'.next)(gq:H'.get q=some ⟨3,1,v.map cI,false⟩)
  (gV:H'.get V=some ⟨48,1,lL qs x.k++[[.own q v.length]],false⟩) (hf:∀ j∈a :: b :: qs,H'.get j=H.get j):HH H' lo a b V (qs++[q]) ⟨x.j,x.k++[v]⟩ where
 ga:=(hf a dB).trans h.ga
 gb:=(hf b dB).trans h.gb
 gV:=by rw [yF h.len];exact gV
 len:=by simp [h.len]
 gq i q' v' h1 h2:=by
  by_cases hi:i<qs.length
  .rw [aR hi] at h1;rw [aR (by rw [<- h.len];exact hi)] at h2;exact (hf q' (by simp [aL h1])).trans (h.gq i q' v' h1 h2)
  .have h1':=(aP.1 h1).1;have:i=qs.length:=by simp at h1';omega
   subst this;simp at h1;rw [h.len] at h2;simp at h2;subst h1 h2;exact gq
 nd:=by
  have:=h.nd;have e:a :: b :: V :: (qs++[q])=(a :: b :: V :: qs)++[q]:=rfl;rw [e,n9];exact ⟨this,by simp,λy hy z hz=>by rw [bG] at hz;subst hz;exact hq y hy⟩
 W j hj:=by
  have e:a :: b :: V :: (qs++[q])=(a :: b :: V :: qs)++[q]:=rfl;rw [e,aX,bG] at hj;rcases hj with hj|rfl
  .exact ⟨(h.W j hj).1,cO (h.W j hj).2 hn⟩
  .exact ⟨hlo,hq2⟩
theorem HH.ck (h:HH H lo a b V qs x)(hn:H.next<=H'.next){i q:Nat}{v v':W3}(h1:qs[i]?=some q)(h2:x.k[i]?=some v)(hl:v'.length=v.length)(gq:H'.get q=some ⟨3,1,v'.map cI,false⟩)
  (hf:∀ j∈a :: b :: V :: qs,j≠q->H'.get j=H.get j):HH H' lo a b V qs ⟨x.j,x.k.set i v'⟩ where
 ga:=(hf a h.aO (Ne.symm (h.qn (aL h1)).1)).trans h.ga
 gb:=(hf b h.aN (Ne.symm (h.qn (aL h1)).2.1)).trans h.gb
 gV:=by rw [Tx h2 hl];exact (hf V h.aV (Ne.symm (h.qn (aL h1)).2.2)).trans h.gV
 len:=by simp [h.len]
 gq j q' w k1 k2:=by
  have hqn:qs.Nodup:=by have:=h.nd;simp only [g9] at this;exact this.2.2.2
  rw [dA] at k2;by_cases hj:i=j
  .subst hj;rw [h1] at k1;cases k1
   rw [if_pos rfl] at k2;split at k2
   .cases k2;exact gq
   .cases k2
  .rw [if_neg hj] at k2;refine (hf q' (h.aI (aL k1)) λe=>hj ?_).trans (h.gq j q' w k1 k2);subst e;obtain ⟨a1,a2⟩:=aP.1 h1;obtain ⟨b1,b2⟩:=aP.1 k1;exact (mR hqn).1 (a2.trans b2.symm)
 nd:=h.nd
 W q hq:=⟨(h.W q hq).1,cO (h.W q hq).2 hn⟩
theorem HH.dp (h:HH H lo a b V qs x):(lL qs x.k).map (·.map (fI H))=x.k.map cL:=by
 apply fL;intro i;simp only [aM];by_cases d:i<x.k.length
 .have hq:i<qs.length:=by rw [h.len];exact d
  have c:=aA d;have e:=aA hq;rw [tE e c,c];have:=h.gq i _ _ e c;simp [fI,this,cL,dLI]
 .rw [bX (by rw [jJ h.len];omega),bX aD];rfl
theorem HH.bO (h:HH H lo a b V qs x):j7 H (.agg [.own a x.j.h.length,.own b x.j.i.length,.own V x.k.length])=x.d:=by
 have j:∀ l:UE,(∀ c∈l,∀ y∈c,∀ i n,y≠D.own i n/\∀ p q r,y≠D.win i p q r)->l.map (·.map (fI H))=l:=λl g=>by
  conv=>rhs;rw [<- List.map_id l]
  refine bJ λc f=>?_;conv=>rhs;rw [id,<- List.map_id c]
  refine bJ λy e=>?_;cases y<;>first|rfl|(exfalso;first|exact (g c f _ e _ _).1 rfl|exact (g c f _ e _ 0).2 _ _ _ rfl)
 simp only [j7,qK,iH,jF,h.ga,h.gb,h.gV,aT,jJ h.len,if_true,h.dp];rw [j (x.j.h.map cI) (λc f y e i n=>by
  rw [aW] at f;obtain ⟨z,_,rfl⟩:=f;simp [cI] at e;subst e;simp),j (x.j.i.map Edge.c) (λc f y e i n=>by
  rw [aW] at f;obtain ⟨z,_,rfl⟩:=f;simp [Edge.c,dI] at e;rcases e with rfl|rfl|rfl<;>simp)]
 rfl
theorem PA {l:UE}(d:∀ c∈l,∀ y∈c,lQ y=[]):l.flatten.flatMap lQ=[]:=by
 rw [oR];intro i a;rw [bK] at a;obtain ⟨y,b,a⟩:=a;rw [jE] at b;obtain ⟨c,e,b⟩:=b;rw [d c e y b] at a;cases a
theorem HH.dK (h:HH H lo a b V qs x)(n m k:Nat)(e:Int):∀ i∈BI H (.tup [.agg [.own a n,.own b m,.own V k],dI e]),i∈a :: b :: V :: qs:=by
 intro i hi;have l:(x.j.h.map cI).flatten.flatMap lQ=[]:=PA λc f y d=>by
  rw [aW] at f;obtain ⟨z,_,rfl⟩:=f;simp [cI] at d;subst d;rfl
 have g:(x.j.i.map Edge.c).flatten.flatMap lQ=[]:=PA λc f y d=>by
  rw [aW] at f;obtain ⟨z,_,rfl⟩:=f;simp [Edge.c,dI] at d;rcases d with rfl|rfl|rfl<;>rfl
 simp only [BI,IJ,M5,oA,KC,h.ga,h.gb,h.gV,l,g,dI,lQ,dS,aX,Abs.aV,fJ,or_false] at hi;rcases hi with rfl|rfl|rfl|hi
 .exact h.aO
 .exact h.aN
 .exact h.aV
 .rw [bK] at hi;obtain ⟨y,d,hi⟩:=hi;rw [jE] at d;obtain ⟨c,f,d⟩:=d;simp only [lL] at f;obtain ⟨j,o,rfl⟩:=aQ f;rw [List.getElem_zipWith,bG] at d;subst d;simp only [lQ,bG] at hi;subst hi;exact h.aI (aC _)
end
theorem Qm (h:Host):D.L h.c=true:=by simp [Host.c,D.L,D.P,qA,xM];exact dN _ (λv=>by simp [cL,D.L,qA]) _
@[go_sem] theorem Host.dz (h:Host):h.d.P=true:=by simp [Host.d,D.P,Qm]
/-! ### Extract -/
def Y4 (t:Types)(h:Host)(p:Part):Int:=if fX t h≠0 then fX t h else subF h.j p
def WH (t:Types)(h:Host)(p:Part):Host:=if Y4 t h p=0 then ⟨bZ h.j p,p.h.map λk=>h.k[k.toNat]?.getD []⟩ else ⟨⟨[],[]⟩,[]⟩
theorem Ka (t:Types)(J:t.ok)(h:Host)(p:Part)(O:p.h.length<=1000000)(C:p.i.length<=1000000):Pua 197 [t.d,h.d,p.d] (.tup [(WH t h p).d,dI (Y4 t h p)]):=by
 refine Tz.pK ⟨λt=>t==6||t==10||t==11||t==13||t==48,λr=>match r with|11=>[(0,2),(1,2),(2,3),(2,4),(2,5),(2,6),(2,8),(2,9),(2,10),(2,11),(0,12),(1,12),(0,13),(1,13)]|_=>[]⟩ func197 rfl (λQ E=>?_);have Y:=wa @Host.d.eq_1 @Host.c.eq_1;refine wv (h:=aB (Aj t J h) wl ?_);refine dK (λT=>?_) λT=>?_
 .have z:Y4 t h p=(oY t h).2:=by unfold Y4;rw [if_pos (by unfold fX;omega)];rfl
  have q:WH t h p=⟨⟨[],[]⟩,[]⟩:=by unfold WH;rw [if_neg aD]
  exact wv (h:=E _ _ (by simp [go_sem,z,q,dLI]))
 .have h0:fX t h=0:=by unfold fX;omega
  have z:Y4 t h p=subF h.j p:=by unfold Y4;rw [if_neg aD]
  have B:=lE h0;have o:=B.row;have P:=bR B.gg;have I:=B.vl;refine wv (h:=aB (v6 h.j p O C) wl ?_);refine dK (λS=>?_) λS=>?_
  .have q:WH t h p=⟨⟨[],[]⟩,[]⟩:=by unfold WH;rw [if_neg aD]
   exact wv (h:=E _ _ (by simp [go_sem,z,q,dLI]))
  .have h5':subF h.j p=0:=aD;obtain ⟨M,L,A,K⟩:=rL h5';have R:FD h.j p=p:=by unfold FD;rw [if_pos h5']
   have q:WH t h p=⟨bZ h.j p,p.h.map λk=>h.k[k.toNat]?.getD []⟩:=by unfold WH;rw [if_pos aD]
   have Y:=xa4 Y R @Part.d.eq_1 @Part.c.eq_1 @Graph.d.eq_1 @Graph.c.eq_1;refine wv (h:=lB (Ghosts.step (Ghosts.refl _) 3 0 2 48 1 _ _ ((by simp [go_sem];rfl)) rfl rfl rfl) (λi e H=>∃ a:Yb,(e 3=.adr t.c/\e 4=.adr h.c/\e 5=.adr p.c/\e 6=.ptr 0 1 0 0/\e 10=.ptr 1 1 0 0/\e 11=.ptr 2 1 0 0/\e 13=.ptr 3 1 0 0/\e 14=dI i)/\(H.get 0=some ⟨68,3,[[.nil,.nil,.nil]],false⟩)/\(0<H.next)/\(H.get 1=some ⟨51,2,[(bZ h.j p).c],false⟩)/\(1<H.next)/\(H.get 2=some ⟨58,2,[p.c],false⟩)/\(2<H.next)/\(H.get 3=some ⟨68,3,[[dLI (bZ h.j p).h,.list ((bZ h.j p).i.map Edge.c),.own 4 a.length]],false⟩)/\(3<H.next)/\(H.get 4=some ⟨48,1,a.map cL,false⟩)/\(4<H.next)/\(i<=p.h.length)/\(a=(p.h.take i).map λk=>h.k[k.toNat]?.getD [])/\(a.length=i)) (λi=>p.h.length - i) 0 ⟨([]),wg,wn,wn,wn,wn,wn,wn,wn,wn,wn,wn,wi,(by rfl),(by rfl)⟩ λW F i e H D=>?_);obtain ⟨a,U,y,m,x,l,w,j,v,g,u,f,V,n,G⟩:=D;have Y:=xb0 Y U y (bL m) x (bL l) w (bL j) v (bL g) u (bL f);refine i7 (λs=>?_) λs=>?_
   .have hk:=A _ (aC s);have b:p.h[i].toNat<h.k.length:=aD;have N:=(o _ (aC b)).1;have Y:=xa3 Y s (aA s) (aA b) @cL.eq_1;exact wp (h:=wx F (i+1) ⟨(a++[h.k[p.h[i].toNat]]),wg,wn,wn,wn,wn,wn,wn,wn,wn,wn,wn,wj,(by rw [lA _ s,<- n,aA b];rfl),(by simp;omega)⟩)
   .have hVS:a=p.h.map λk=>h.k[k.toNat]?.getD []:=by rw [n,mD _ aD]
    exact wv (h:=E _ _ (by simp [go_sem,Y,z,q,h5',hVS,cL]))
theorem Kb (h:Host)(hn:h.j.h.length<=100000)(he:h.j.i.length<=100000)(hv:h.k.length<=100000)(S:∀ v∈h.k,v.length<=100000)(G:AHeap)(Q:D->AHeap->Prop)
  (hQ:∀ a b V qs H',HH H' G.next a b V qs h->(∀ j,j<G.next->H'.get j=G.get j)->G.next<=H'.next->Q (.agg [.own a h.j.h.length,.own b h.j.i.length,.own V h.k.length]) H'):ACalls prog 140 [h.d] G Q:=by
 refine (Tz.cK ⟨λt=>t==2||t==3||t==18||t==1000001,λr=>match r with|5=>[(0,2),(1,2),(2,3),(2,4),(2,6),(2,7),(0,8),(1,8),(0,9),(1,9)]|_=>[]⟩ func140 rfl ?_);have Y:=wa @Host.d.eq_1 @Host.c.eq_1;refine wv (h:=?_);unfold fE;refine oD h.j aD aD _ _ (λa b g ha W Z X U C B u y=>?_);simp [go_sem] at ha W y;have o:=u G.next (by simp [go_sem]);simp [go_sem] at o;have s:∀ j,j<G.next->g.get j=G.get j:=λj hj=>by
  rw [u j (by simp [go_sem];omega)];simp [go_sem,(aD:j≠G.next)]
 have M:=Qr g.next;have I:=xa1 (bL (aD:a<g.next)) (bL (aD:b<g.next)) (bL (aD:G.next<g.next));have K:=xa1 (cY (aD:G.next≠b)) (cY (aD:G.next≠a)) (cY (aD:b≠a));have Y:=xa5 Y I K C B o M;refine wv (h:=lB (Ghosts.step (Ghosts.refl _) g.next 0 2 48 1 _ _ ((by simp [go_sem];rfl)) rfl rfl rfl) (λi e H=>∃ R:Nat,∃ c:Nat,∃ V:Nat,∃ qs:List Nat,(e 1=.adr h.c/\e 2=.ptr R 1 0 0/\e 3=.ptr c 1 0 0/\e 4=dI i)/\(H.get R=some ⟨68,3,[[.nil,.nil,.nil]],false⟩)/\(R<H.next)/\(H.get c=some ⟨68,3,[[.own a h.j.h.length,.own b h.j.i.length,.own V i]],false⟩)/\(c<H.next)/\(H.get V=some ⟨48,1,lL qs (h.k.take i),false⟩)/\(V<H.next)/\(i<=h.k.length)/\(HH H (G.next+1) a b V qs ⟨h.j,h.k.take i⟩)/\((a<c/\b<c/\c<V/\V<H.next/\R<a/\R<b/\R<c/\G.next<=R))/\(∀ q∈qs,V<q)/\(∀ j,j<G.next->H.get j=G.get j)/\(G.next<=H.next)) (λi=>h.k.length - i) 0 ⟨G.next,g.next,(g.next+1),([]),wg,wn,wn,wn,wn,(by simp [go_sem,Y,lL]),wn,wi,(by refine ⟨by simp [go_sem,Y],by simp [go_sem,Y],by simp [go_sem,lL],rfl,by simp,by simp;omega,by simp [go_sem];omega⟩),(by simp [go_sem];omega),(by intro q n;cases n),(by intro j hj;simp [go_sem,(aD:j≠g.next),(aD:j≠g.next+1)];exact s j hj),(by simp [go_sem];omega)⟩ λI0 F i e H A=>?_);obtain ⟨R,c,V,qs,E0,gR_0,nR_0,w,l,gV_0,nV_0,hi,f,hc,n,L,T⟩:=A;have J:=xa8 (cY (aD:R≠V)) (cY (aD:R≠c)) (cY (aD:R≠b)) (cY (aD:R≠a)) (cY (aD:V≠c)) (cY (aD:V≠b)) (cY (aD:V≠a)) (cY (aD:c≠b)) (cY (aD:c≠a)) (cY (aD:b≠a));have Y:=xa8 Y @Host.c.eq_1 E0 gR_0 (bL nR_0) w (bL l) gV_0 (bL nV_0) J;refine i7 (λk=>?_) λk=>?_
 .have hr8:=S _ (aC k);have p:∀ j∈a :: b :: qs,j≠V/\j≠c/\j<H.next:=λj hj=>by
   simp only [aV] at hj;rcases hj with rfl|rfl|hj
   .exact ⟨aD,aD,(f.W _ f.aO).2⟩
   .exact ⟨aD,aD,(f.W _ f.aN).2⟩
   .have:=n j hj;exact ⟨aD,aD,(f.W _ (f.aI hj)).2⟩
  have x:(lL qs (h.k.take i)).length=i:=by rw [jJ f.len];simp;omega
  have Y:=xa3 Y k (aA k) @cL.eq_1 x;exact wp (h:=wx F (i+1) ⟨R,c,V,(qs++[H.next+2]),wg,wn,wn,wn,wn,(by rw [aE k,yF f.len];simp [go_sem,Y,cL]),wn,wj,(by rw [aE k];exact f.bU (by first|(simp [go_sem];done)|(simp [go_sem];omega)) aD (λj hj=>by have:=(f.W j hj).2;omega) (by simp [go_sem]) (by simp [go_sem,Y]) (by simp [go_sem,Y,cL]) (λj hj=>by obtain ⟨P,O,N⟩:=p j hj;simp [go_sem,P,O,bL N])),(by simp [go_sem];omega),(by intro q m;rw [aX,bG] at m;rcases m with h1|rfl;exact n q h1;omega),(by intro j hj;simp [go_sem,(aD:j≠H.next+2),(aD:j≠V),(aD:j≠c)];exact L j hj),(by simp [go_sem];omega)⟩)
 .rw [aG aD] at f;have z:i=h.k.length:=aD;have E:∀ j∈a :: b :: V :: qs,j≠R:=λj hj=>by
   simp only [aV] at hj;rcases hj with rfl|rfl|rfl|hj
   .omega
   .omega
   .omega
   .have:=n j hj;omega
  refine wv (h:=?_);rw [z];exact hQ a b V qs _ ((f.dd aD).same (by simp [go_sem]) (λj hj=>by simp [go_sem,E j hj])) (λj hj=>by simp [go_sem,(aD:j≠R)];exact L j hj) (by simp [go_sem];omega)
/-! ### exact numbers -/
def HK (l l1:List Nat)(j:Nat):Nat:=if j∈l then l1[l.idxOf j]?.getD 0 else j
theorem CV {l a:List Nat}(e:l.Nodup){i j b:Nat}(h:l[i]?=some j)(f:a[i]?=some b):HK l a j=b:=by
 obtain ⟨c,d⟩:=aP.1 h;unfold HK;rw [if_pos (d ▸ aC c)];have:l.idxOf j=i:=by rw [<- d];exact e.idxOf_getElem i c
 rw [this,f];rfl
theorem Af {l a:List Nat}{j:Nat}(h:j∉l):HK l a j=j:=by unfold HK;rw [if_neg h]
theorem Ap {τ:Nat->Nat}{l:UE}(b:∀ c∈l,∀ y∈c,BV τ y=y):l.map (·.map (BV τ))=l:=by
 conv=>rhs;rw [<- List.map_id l]
 refine bJ λc d=>?_;conv=>rhs;rw [id,<- List.map_id c]
 exact bJ λy a=>b c d y a
theorem HH.exact {H H1 E:AHeap}{lo a0 a b V a1 b1 V1:Nat}{N t:List Nat}{x:Host}(G:HH E lo a b V N x)(M:HH H1 a0 a1 b1 V1 t x)
  (a2:∀ j,H.F j->j<H.next) (O:∀ j,¬ H.F j->H.get j=none) (Gs:H.next<=E.next)
  (g:∀ j,E.F j↔H.F j\/j∈a :: b :: V :: N) (Y:∀ j,H.F j->j∉a :: b :: V :: N->H1.get j=H.get j) (Q:∀ j,j∉a :: b :: V :: N->E.get j=H.get j)
  (f:∀ (i j F:Nat),(a :: b :: V :: N)[i]?=some j->(a1 :: b1 :: V1 :: t)[i]?=some F->(H.F j->F=j)/\(¬ H.F j->¬ H.F F)) :
  ∃ τ,Exact H H1 E τ/\.agg [.own a1 x.j.h.length,.own b1 x.j.i.length,.own V1 x.k.length]=Vi τ (.agg [.own a x.j.h.length,.own b x.j.i.length,.own V x.k.length])/\okC E.F (.agg [.own a x.j.h.length,.own b x.j.i.length,.own V x.k.length]):=by
 obtain ⟨l,A⟩:=fD (a :: b :: V :: N);obtain ⟨D,w⟩:=fD (a1 :: b1 :: V1 :: t);have u:=G.nd;have P:=M.nd;have W:=G.W;rw [<- A] at g Y Q f u W;rw [<- w] at f P;have a3:D.length=l.length:=by rw [A,w];simp [M.len,G.len]
 have o:∀ j∈l,∃ i F,l[i]?=some j/\D[i]?=some F/\HK l D j=F:=λj B=>by
  obtain ⟨i,C,L⟩:=aQ B;have m:l[i]?=some j:=by rw [aA C,L]
  have n:=aA (aD:i<D.length);exact ⟨i,_,m,n,CV u m n⟩
 have ra:HK l D a=a1:=CV u (i:=0) (by rw [A];rfl) (by rw [w];rfl);have rb:HK l D b=b1:=CV u (i:=1) (by rw [A];rfl) (by rw [w];rfl);have rV:HK l D V=V1:=CV u (i:=2) (by rw [A];rfl) (by rw [w];rfl);have rq:∀ i q q1,N[i]?=some q->t[i]?=some q1->HK l D q=q1:=λi q q1 e m=>CV u (i:=i+3) (by rw [A];exact e) (by rw [w];exact m);have cI_ren:∀ (v:W3),(v.map cI).map (·.map (BV (HK l D)))=v.map cI:=λv=>Ap λc r y s=>by
  rw [aW] at r;obtain ⟨z,_,rfl⟩:=r;simp [cI] at s;subst s;rfl
 have cI_ok:∀ (v:W3),∀ c∈v.map cI,∀ y∈c,ZR E.F y:=λv c r y s=>by
  rw [aW] at r;obtain ⟨z,_,rfl⟩:=r;simp [cI] at s;subst s;rfl
 refine ⟨HK l D,⟨λj B=>?_,λi j C B L=>?_,λj B=>⟨(g j).2 (.inl B),?_⟩,λj B=>?_,λj k I=>?_⟩,?_,?_⟩
 .rcases (g j).1 B with h|h
  .exact cO (a2 j h) Gs
  .exact (W j h).2
 .by_cases hi2:i∈l<;>by_cases d:j∈l
  .obtain ⟨p,S,m,n,R⟩:=o i hi2;obtain ⟨p',F,f1,f2,f3⟩:=o j d;rw [R,f3] at L;subst L;obtain ⟨u1,u2⟩:=aP.1 n;obtain ⟨v1,v2⟩:=aP.1 f2;have:p=p':=(mR P).1 (u2.trans v2.symm);subst this;rw [m] at f1;cases f1;rfl
  .obtain ⟨p,S,m,n,R⟩:=o i hi2;rw [R,Af d] at L;subst L;have J:H.F S:=(((g S).1 B).resolve_right d);by_cases K:H.F i
   .exact ((f p i S m n).1 K).symm
   .exact absurd J ((f p i S m n).2 K)
  .obtain ⟨p,F,m,n,R⟩:=o j d;rw [R,Af hi2] at L;subst L;have K:H.F i:=(((g i).1 C).resolve_right hi2);by_cases J:H.F j
   .exact (f p j i m n).1 J
   .exact absurd K ((f p j i m n).2 J)
  .rwa [Af hi2,Af d] at L
 .by_cases d:j∈l
  .obtain ⟨p,F,m,n,R⟩:=o j d;rw [R];exact (f p j F m n).1 B
  .exact Af d
 .have h2:¬ H.F j/\j∉l:=⟨λh=>B ((g j).2 (.inl h)),λh=>B ((g j).2 (.inr h))⟩;rw [Q j h2.2];exact O j h2.1
 .by_cases d:j∈l
  .right
   have T:=d;rw [A,Abs.aV,Abs.aV,Abs.aV] at T;rcases T with rfl|rfl|rfl|hq
   .rw [G.ga] at I;cases I
    rw [ra];exact ⟨_,M.ga,rfl,rfl,rfl,(cI_ren _).symm,cI_ok _⟩
   .rw [G.gb] at I;cases I
    rw [rb];refine ⟨_,M.gb,rfl,rfl,rfl,(Ap λc r y s=>?_).symm,λc r y s=>?_⟩
    .rw [aW] at r;obtain ⟨z,_,rfl⟩:=r;simp [Edge.c,dI] at s;rcases s with rfl|rfl|rfl<;>rfl
    .rw [aW] at r;obtain ⟨z,_,rfl⟩:=r;simp [Edge.c,dI] at s;rcases s with rfl|rfl|rfl<;>rfl
   .rw [G.gV] at I;cases I
    rw [rV];refine ⟨_,M.gV,rfl,rfl,rfl,?_,λc r y s=>?_⟩
    .apply fL;intro i;simp only [aM];by_cases C:i<x.k.length
     .have Z:=aA C;have m:=aA (show i<N.length by rw [G.len];exact C);have n:=aA (show i<t.length by rw [M.len];exact C);rw [tE m Z,tE n Z];simp [BV,rq i _ _ m n]
     .rw [bX (by rw [jJ M.len];omega),bX (by rw [jJ G.len];omega)];rfl
    .simp only [lL] at r;obtain ⟨i,C,rfl⟩:=aQ r;rw [List.getElem_zipWith,bG] at s;subst s;show E.F _;exact (g _).2 (.inr (by rw [A];exact d7 _ (d7 _ (d7 _ (aC _)))))
   .obtain ⟨i,C,rfl⟩:=aQ hq;have m:=aA C;have U:i<x.k.length:=by rw [<- G.len];exact C
    have Z:=aA U;have n:=aA (show i<t.length by rw [M.len];exact U);rw [G.gq i _ _ m Z] at I;cases I
    rw [rq i _ _ m n];exact ⟨_,M.gq i _ _ n Z,rfl,rfl,rfl,(cI_ren _).symm,cI_ok _⟩
  .left
   have X:=Q j d;rw [I] at X;have hA:H.F j:=bB λhn=>by rw [O j hn] at X;cases X
   exact ⟨hA,X.symm,(Y j hA d).trans X.symm⟩
 .simp [Vi,BV,ra,rb,rV]
 .intro c r;simp only [Abs.aV,fJ,or_false] at r;rcases r with rfl|rfl|rfl
  .exact (g _).2 (.inr (by rw [A];simp))
  .exact (g _).2 (.inr (by rw [A];simp))
  .exact (g _).2 (.inr (by rw [A];simp))
theorem w3 {j:Nat}{k:Blk}:∀ (q:List (Nat × Blk)) (H:AHeap),(q.map (·.1)).Nodup->(j,k)∈q->(H.ac q).get j=some k
 | p :: q,H,hn,hm=>by
  rw [iH,g9] at hn;rw [aV] at hm;simp only [AHeap.ac];rcases hm with rfl|hm
  .rw [oU q _ _ hn.1];simp [AHeap.push]
  .exact w3 q _ hn.2 hm
def Ty (qs:List Nat)(vs:Yb):List (Nat × Blk):=List.zipWith (λq (v:W3)=>(q,(⟨3,1,v.map cI,false⟩:Blk))) qs vs
theorem HG {a:List Nat}{vs:Yb}(h:a.length=vs.length):(Ty a vs).map (·.1)=a:=by
 unfold Ty;rw [List.map_zipWith];apply fW (by simp [h]);intro i c b;simp
theorem Oi {qs:List Nat}{vs:Yb}{i q:Nat}{v:W3}(h1:qs[i]?=some q)(h2:vs[i]?=some v):(q,(⟨3,1,v.map cI,false⟩:Blk))∈Ty qs vs :=
 aL (i:=i) (by simp [Ty,List.getElem?_zipWith,h1,h2])
def Kp (a b V:Nat)(qs:List Nat)(h:Host):List (Nat × Blk):=(a,⟨3,1,h.j.h.map cI,false⟩) :: (b,⟨134,3,h.j.i.map Edge.c,false⟩) :: (V,⟨48,1,lL qs h.k,false⟩) :: Ty qs h.k
theorem PT {a b V:Nat}{c:List Nat}{h:Host}(d:c.length=h.k.length):(Kp a b V c h).map (·.1)=a :: b :: V :: c:=by simp [Kp,HG d]
theorem SV {H:AHeap}{a b V:Nat}{d:List Nat}{h:Host}(l:d.length=h.k.length)(e:(a :: b :: V :: d).Nodup)(f:∀ j∈a :: b :: V :: d,j<H.next):HH (H.ac (Kp a b V d h)) 0 a b V d h:=by
 have c:=PT (a:=a) (b:=b) (V:=V) l;have g:((Kp a b V d h).map (·.1)).Nodup:=by rw [c];exact e
 have k:(H.ac (Kp a b V d h)).next=H.next:=qV _ _ λp n=>f p.1 (by rw [<- c];exact pA n);refine ⟨w3 _ _ g (by simp [Kp]),w3 _ _ g (by simp [Kp]),w3 _ _ g (by simp [Kp]),l,λi q v r o=>w3 _ _ g ?_,e,λq m=>⟨eB _,by rw [k];exact f q m⟩⟩;exact d7 _ (d7 _ (d7 _ (Oi r o)))
theorem Ko {md:Nat->Bool}{ops:Array Oper}{F:List (Nat × Nat)}{B i:Nat}{n:List Oper}{s:List (Nat × List Nat)}{e:eF}{r:Option Tmp}{K:eF->AHeap->Prop}{H:AHeap}
  (h:Host) (P:h.j.h.length<=100000) (Q:h.j.i.length<=100000) (N:h.k.length<=100000) (O:∀ v∈h.k,v.length<=100000)
  (a b V:Nat) (k:List Nat) (I:k.length=h.k.length) (w:(a :: b :: V :: k).Nodup) (x:B<=H.next) (q:∀ j∈a :: b :: V :: k,j<B/\¬ H.F j) (G:Et md r=true) (R:chk F i (a :: b :: V :: k) s)
  (S:∀ E,HH E 0 a b V k h->(∀ j,j∉a :: b :: V :: k->E.get j=H.get j)->(∀ j,E.F j↔H.F j\/j∈a :: b :: V :: k)->E.next=H.next ->
   j9 prog md ops F B (i+1) n ((i,a :: b :: V :: k) :: s) (pG e r (.agg [.own a h.j.h.length,.own b h.j.i.length,.own V h.k.length])) E K) :
  rA prog md ops F B i n s e r K 140 [h.d] H:=by
 have c:=PT (a:=a) (b:=b) (V:=V) I;unfold rA;refine Or.inr ⟨G,.agg [.own a h.j.h.length,.own b h.j.i.length,.own V h.k.length],[],[],Kp a b V k h,λp m=>absurd m (fJ),λp m=>q p.1 (by rw [<- c];exact pA m),λt _ f=>?_,?_,?_⟩
 .have hf':∀ j∈a :: b :: V :: k,j<t.next/\¬ t.F j:=λj g=>by
   rw [<- c,aW] at g;obtain ⟨p,m,rfl⟩:=g;exact f p m
  refine ACalls.exact (E:=t.ac (Kp a b V k h)) (Kb h P Q N O t (λd D=>∃ z y A l,HH D t.next z y A l h/\(∀ j,j<t.next->D.get j=t.get j)/\d=.agg [.own z h.j.h.length,.own y h.j.i.length,.own A h.k.length]) (λz y A l D C L _=>⟨z,y,A,l,C,L,rfl⟩)) ?_;rintro o u d D ⟨z,y,A,l,C,L,rfl⟩;refine HH.exact (SV I w λj g=>(hf' j g).1) C o u ?_ (λj=>?_) (λj g _=>L j (o j g)) (λj g=>oU _ _ _ (by rw [c];exact g)) (λi j M e T=>⟨λJ=>absurd J (hf' j (aL e)).2,λ_ J=>?_⟩)
  .rw [qV _ _ λp m=>(f p m).1];exact aZ _
  .rw [tV,c]
  .have:=(C.W M (aL T)).1;have:=o M J;omega
 .rw [c];exact R
 .rw [c];refine S _ (SV I w λj g=>cO (q j g).1 x) (λj g=>oU _ _ _ (by rw [c];exact g)) (λj=>by rw [tV,c];rfl) (qV _ _ λp m=>cO (q p.1 (by rw [<- c];exact pA m)).1 x)
theorem Pt {α:Type}{f:α->Int}{m:Int}(h0:(0:Int)≠m)(h:∀ x,f x≠m):∀ l,gK f l≠m
 | []=>h0
 | x :: l=>by
  simp only [gK];split
  .exact h x
  .exact Pt h0 h l
theorem Tm (n:Int)(l:List Test):kT n l≠9:=by
 unfold kT;split
 .decide
 .split
  .decide
  .refine Pt (by decide) (λx=>?_) l;unfold uV;split
   .decide
   .split<;>decide
structure PatOk (t:Types) (q:Pattern):Prop where
 vf:(cW t).2=0
 gg:graphF q.j=0
 ty:fQ t q.j=true
 vars:0<=q.vars/\q.vars<=12
 bg:q.l.length<=10/\q.G.length<=10
 dm:∀ s∈q.l,gF t q s=0
 test:∀ x∈q.G,uV q.vars x=0
theorem Lf {t:Types}{q:Pattern}(h:cX t q=9\/cX t q=0):PatOk t q:=by
 have i:=kX h;have k:=KG t;have l:graphF q.j≠9:=by
  unfold graphF;repeat' split
  all_goals decide
 have j:=Tm q.vars q.G;unfold cX at h;by_cases g:(cW t).2=0
 .rw [if_neg aD] at h;by_cases f:graphF q.j=0
  .rw [if_neg aD] at h;by_cases b:fQ t q.j=false
   .rw [if_pos b] at h;omega
   .rw [if_neg b] at h;by_cases e:inF q.vars 0 12=false
    .rw [if_pos e] at h;omega
    .rw [if_neg e] at h;by_cases d:10<q.l.length\/10<q.G.length
     .rw [if_pos d] at h;omega
     .rw [if_neg d] at h;by_cases c:gK (gF t q) q.l=0
      .rw [if_neg aD] at h;by_cases a:kT q.vars q.G=0
       .refine ⟨g,f,by simpa using b,i,aD,qZ c,qZ ?_⟩;unfold kT at a;split at a
        .cases a
        .split at a
         .cases a
         .exact a
       .rw [if_pos a] at h;omega
      .rw [if_pos c] at h;omega
  .rw [if_pos f] at h;omega
 .rw [if_pos g] at h;omega
theorem N3 {n:Int}{x:Term}(h:termB n x=true)(hn:0<=n):qH x n.toNat:=by
 simp only [termB,aN,decide_eq_true_eq] at h;exact ⟨⟨aD,aD⟩,aD,aD⟩
theorem PatOk.G {t:Types}{q:Pattern}(hp:PatOk t q):∀ x∈q.G,JF x q.vars.toNat:=λx hx=>by
 have:=hp.test x hx;unfold uV at this;split at this
 .cases this
 .rename_i h1;split at this
  .rename_i h2;rw [aN] at h2;exact ⟨aD,N3 h2.1 hp.vars.1,N3 h2.2 hp.vars.1⟩
  .cases this
theorem PatOk.l {t:Types}{q:Pattern}(hp:PatOk t q):∀ s∈q.l,(0<=s.node/\s.node<q.j.h.length)/\(0<=s.J/\s.J<(bI t (q.j.h[s.node.toNat]?.getD 0)).length)/\qH s.x q.vars.toNat:=λs hs=>by
 have:=hp.dm s hs;have hv:=hp.vars;unfold gF at this;split at this
 .rename_i h1;simp only [aN,lZ,decide_eq_true_eq,inF,Pattern.E] at h1;exact ⟨h1.1.1.1,⟨h1.1.1.2.1,of_decide_eq_true h1.1.1.2.2⟩,⟨aD,aD⟩,aD,aD⟩
 .cases this
structure MOk (t:Types) (p g:Graph) (m:Part):Prop where
 len:m.h.length=p.h.length
 bk:m.i.length=p.i.length
 bj:∀ (i:Nat) (hi:i<m.h.length) (hp:i<p.h.length),(0<=m.h[i]/\m.h[i]<g.h.length)/\wJ t p.h[i] (g.h[m.h[i].toNat]?.getD 0)=true
 b2:∀ (i:Nat) (hi:i<m.i.length),0<=m.i[i]/\m.i[i]<g.i.length
theorem qY {t:Types}{p g:Graph}{m:Part}{b:Bool}(h:matchE t p g m b=0):MOk t p g m:=by
 obtain ⟨⟨j,f⟩,e,d⟩:=AZ h;refine ⟨j,f,λi a c=>⟨e _ (aC a),?_⟩,λi a=>d _ (aC a)⟩;unfold matchE at h;rw [if_neg aD] at h;split at h
 .exact absurd h (by assumption)
 .rename_i h5;have:=eI _ _ (eQ h5) i (eB _) aD;unfold mNE at this;rw [aA a,aA c,Option.getD_some,Option.getD_some] at this;split at this
  .cases this
  .split at this
   .assumption
   .cases this
theorem PK {S:Srch}{ns:W3}:∀ (d:Nat) (l es:W3),es∈Gv S ns d l->es.length=l.length+d/\(∀ x∈l,0<=x/\x<S.g.i.length->True)/\((∀ x∈l,0<=x/\x<S.g.i.length)->∀ x∈es,0<=x/\x<S.g.i.length)
 | 0,l,es,h=>by
  simp only [Gv,bG] at h;subst h;exact ⟨rfl,λ_ _ _=>trivial,λh=>h⟩
 | d+1,l,es,h=>by
  simp only [Gv,bK,fK,bA] at h;obtain ⟨k,⟨hk,_⟩,hr⟩:=h;obtain ⟨h1,_,h3⟩:=PK d _ es hr;refine ⟨by simp at h1;omega,λ_ _ _=>trivial,λhl=>h3 λx hx=>?_⟩;rw [aX,bG] at hx;rcases hx with hx|rfl
  .exact hl x hx
  .omega
theorem PJ {S:Srch}:∀ (d:Nat) (l:W3) (m:Part),m∈DE S d l->m.h.length=l.length+d/\∀ i,l.length<=i->i<l.length+d->∃ k:Nat,m.h[i]?=some (k:Int)/\k<S.g.h.length/\wJ S.t (S.p.h[i]?.getD 0) (S.g.h[k]?.getD 0)=true
 | 0,l,m,h=>by
  simp only [DE,aW] at h;obtain ⟨es,_,rfl⟩:=h;exact ⟨rfl,λi h1 h2=>by omega⟩
 | d+1,l,m,h=>by
  have h':=h;simp only [DE,bK,fK,bA] at h;obtain ⟨k,⟨hk,ho⟩,hr⟩:=h;obtain ⟨h1,h2⟩:=PJ d _ m hr;simp at h1 h2;refine ⟨aD,λi h3 h4=>?_⟩;by_cases hi:i=l.length
  .subst hi;obtain ⟨⟨r,hr2⟩,_⟩:=AH d _ m hr;refine ⟨k,by rw [hr2];simp,hk,?_⟩;simp only [Li,aN] at ho;exact ho.2.2
  .exact h2 i aD aD
theorem Qi {S:Srch}{m:Part}(h:m∈zR S):MOk S.t S.p S.g m:=by
 unfold zR at h;obtain ⟨f,e⟩:=PJ _ _ m h;obtain ⟨_,q⟩:=AH _ _ m h;obtain ⟨d,_,o⟩:=PK _ _ _ q;simp at f e d;refine ⟨f,d,λi a l=>?_,λi a=>o (by intro x j;cases j) _ (aC a)⟩;obtain ⟨k,c,r,b⟩:=e i aD;rw [aA a] at c;have n:m.h[i]=(k:Int):=Option.some.inj c;rw [aA l,Option.getD_some] at b;rw [n];exact ⟨aD,by simpa using b⟩
theorem oZ {t:Types}{h:Host}(ho:HostOk t h):∀ a∈h.j.h,0<=a/\a<t.h.length:=λa ha=>by
 obtain ⟨i,hi,rfl⟩:=aQ ha;have:=ho.vl;exact ⟨((dP ho.gg).1 _ ha).1,(p8 (ho.nd i hi aD)).1⟩
theorem XL {t:Types}{q:Pattern}{h:Host}{m:Part}(hp:PatOk t q)(ho:HostOk t h)(hm:MOk t q.j h.j m):SOk q h m where
 vars:=hp.vars
 node s hs:=by have:=hp.l s hs;have:=hm.len;omega
 bj k hk:=by
  obtain ⟨i,hi,rfl⟩:=aQ hk;have:=(hm.bj i hi (by have:=hm.len;omega)).1;have:=ho.vl;omega
 J s hs:=by
  obtain ⟨h1,h2,_⟩:=hp.l s hs;have hl:=hm.len;have hi:s.node.toNat<m.h.length:=aD;have hq:s.node.toNat<q.j.h.length:=aD;obtain ⟨h3,h4⟩:=hm.bj _ hi hq;have hvl:=ho.vl;have hk:m.h[s.node.toNat].toNat<h.j.h.length:=aD;have hkv:m.h[s.node.toNat].toNat<h.k.length:=aD;rw [aA hi,Option.getD_some,aA hkv,Option.getD_some];rw [aA hq,Option.getD_some] at h2;rw [aA hk,Option.getD_some] at h4;have ha:=(lT hp.gg hp.ty).1 _ (aC hq);have hb:=oZ ho _ (aC hk);rw [tL hp.vf ha.1 ha.2] at h2;have hrow:=(p8 (ho.nd _ hk hkv)).2.2.1;rw [tL hp.vf hb.1 hb.2] at hrow;unfold wJ at h4;obtain ⟨r,hr⟩:=LY (mW hp.vf) (h.j.h[m.h[s.node.toNat].toNat]).toNat aD (q.j.h[s.node.toNat]).toNat (by rw [Int.toNat_of_nonneg ha.1];exact h4);rw [hr,aH] at hrow;omega
 aW l hl v hv:=(ho.row l hl).2 v hv
 x s hs:=(hp.l s hs).2.2
 test:=hp.G
/-! ### values -/
def Mg (p:Pattern)(vs:W3):W3 × List Bool:=(vs++List.replicate (p.vars.toNat - vs.length) 0,List.replicate vs.length true++List.replicate (p.vars.toNat - vs.length) false)
theorem GK (p:Pattern):Mg p []=(List.replicate p.vars.toNat 0,List.replicate p.vars.toNat false):=by simp [Mg]
theorem eM {p:Pattern}{h:Host}{m:Part}{vs:W3}(a:slotsV h m (Mg p vs) p.l=none):eP p h m vs=([],11):=by
 unfold eP;unfold Mg at a;rw [a]
theorem pL {p:Pattern}{h:Host}{m:Part}{vs:W3}{q:W3 × List Bool}(a:slotsV h m (Mg p vs) p.l=some q):eP p h m vs=if p.G.all (λx=>Be x q.1)=true then (q.1,0) else ([],16):=by
 unfold eP;unfold Mg at a;rw [a]
structure StOk (n:Nat) (st:W3 × List Bool):Prop where
 l1:st.1.length=n
 l2:st.2.length=n
 sm:∀ v∈st.1,-2000000<=v/\v<=2000000
theorem StOk.aM {n:Nat}{st:W3 × List Bool}(h:StOk n st):Sm st.1:=λv hv=>by have:=h.sm v hv;omega
theorem N7 {p:Pattern}{vs:W3}(b:0<=p.vars)(c:vs.length<=p.vars.toNat)(a:∀ v∈vs,-2000000<=v/\v<=2000000):StOk p.vars.toNat (Mg p vs):=by
 refine ⟨by simp [Mg];omega,by simp [Mg];omega,λv h=>?_⟩;simp only [Mg,aX,List.mem_replicate] at h;rcases h with h|h
 .exact a v h
 .omega
theorem Ab {n:Nat}{h:Host}{m:Part}{b:W3 × List Bool}{s:Slot}(a:StOk n b)(f : -1000000<=haveV h m s/\haveV h m s<=1000000)(d:qH s.x n):StOk n (lJ h m b s):=by
 unfold lJ;split
 .refine ⟨by simp [a.l1],by simp [a.l2],λv c=>?_⟩;rcases nM c with e|rfl
  .exact a.sm v e
  .have:=d.2;omega
 .exact a
theorem SOk.bG {p:Pattern}{h:Host}{m:Part}(d:SOk p h m){s:Slot}(e:s∈p.l) : -1000000<=haveV h m s/\haveV h m s<=1000000:=by
 have g:=d.node s e;have a:s.node.toNat<m.h.length:=aD;have i:=d.bj _ (aC a);have b:(m.h[s.node.toNat]).toNat<h.k.length:=aD;have f:=d.J s e;unfold haveV;rw [aA a,Option.getD_some,aA b,Option.getD_some] at f ⊢;have c:s.J.toNat<(h.k[(m.h[s.node.toNat]).toNat]).length:=aD;rw [aA c];exact d.aW _ (aC b) _ (aC c)
theorem KN {p:Pattern}{h:Host}{m:Part}(hO:SOk p h m):∀ (l:List Slot) (st q:W3 × List Bool),(∀ s∈l,s∈p.l)->StOk p.vars.toNat st->slotsV h m st l=some q->StOk p.vars.toNat q
 | [],st,q,_,hst,hq=>by simp only [slotsV,bH] at hq;exact hq ▸ hst
 | s :: l,st,q,hl,hst,hq=>by
  simp only [slotsV] at hq;split at hq
  .have hs:=hl s (fO ..);exact KN hO l _ q (λx hx=>hl x (d7 _ hx)) (Ab hst (hO.bG hs) (hO.x s hs)) hq
  .cases hq
theorem BP {p:Pattern}{h:Host}{m:Part}(d:SOk p h m){vs:W3}(f:vs.length<=p.vars.toNat)(e:∀ v∈vs,-2000000<=v/\v<=2000000)(a:(eP p h m vs).2=0) :
  (eP p h m vs).1.length=p.vars.toNat/\∀ v∈(eP p h m vs).1,-2000000<=v/\v<=2000000:=by
 cases b:slotsV h m (Mg p vs) p.l with
 | none=>rw [eM b] at a;cases a
 | some q =>
  have c:=KN d _ _ _ (λ_ h=>h) (N7 d.vars.1 f e) b;rw [pL b] at a ⊢;split at a
  .rename_i h1;rw [if_pos h1];exact ⟨c.l1,c.sm⟩
  .cases a
theorem qP (q:Pattern)(h:Host)(a:W3)(l:List Part)(x:Part):wR q h a (l++[x])=wR q h a l++if (eP q h x a).2=0 then [⟨x,(eP q h x a).1⟩] else []:=by
 unfold wR;rw [List.filterMap_append];congr 1;simp only [List.filterMap_cons,List.filterMap_nil];split<;>simp_all
theorem kF (o:Option Bool):(Option.map cB o).getD [D.bool false]=cB (o.getD false):=by cases o<;>rfl
theorem CY (p:Pattern)(h:Host)(m:Part)(M:SOk p h m):Pua 191 [p.d,h.d,m.d] (.tup [dLI (eP p h m []).1,dI (eP p h m []).2]):=by
 have hv:=M.vars;have h0:=N7 (vs:=[]) hv.1 dB dB;rw [GK] at h0;refine Tz.pK ⟨λt=>t==11,λ_=>[]⟩ func191 rfl (λQ O=>?_);have Y:=xa5 @Pattern.d.eq_1 @Pattern.c.eq_1 @Host.d.eq_1 @Host.c.eq_1 @Part.d.eq_1 @Part.c.eq_1 @Term.c.eq_1;refine wp (h:=aY (λi e H=>∃ l:W3 × List Bool,(e 3=.adr p.c/\e 4=.adr h.c/\e 5=.adr m.c/\e 8=.own 0 p.vars.toNat/\e 9=.own 1 p.vars.toNat/\e 10=dI i)/\(H.get 0=some ⟨3,1,l.1.map cI,false⟩)/\(0<H.next)/\(H.get 1=some ⟨4,1,l.2.map cB,false⟩)/\(1<H.next)/\(i<=p.l.length)/\(StOk p.vars.toNat l)/\(slotsV h m (Mg p []) (p.l.take i)=some l)) (λi=>p.l.length - i) 0 ⟨((List.replicate p.vars.toNat 0,List.replicate p.vars.toNat false)),wg,(by simp [go_sem,cI]),wn,(by simp [go_sem,cB]),wn,wi,(by exact h0),(by rw [GK];rfl)⟩ λI0 B i e H a2=>?_);obtain ⟨l,E0,X,S,V,P,hi,q,G⟩:=a2;have Y:=xa4 Y E0 X (bL S) V (bL P);refine wv (h:=?_);repeat first|intro _|refine ⟨gX,?_⟩
 refine wq (λC=>?_) λC=>?_
 .obtain ⟨x,T⟩:=fD (p.l[i]);have z:x∈p.l:=T ▸ aC C;have hn:=M.node x z;have r:x.node.toNat<m.h.length:=aD;have Z:=M.bj _ (aC r);have v:(m.h[x.node.toNat]).toNat<h.k.length:=aD;have ha:=M.J x z;rw [aA r,Option.getD_some,aA v,Option.getD_some] at ha;have A:x.J.toNat<(h.k[(m.h[x.node.toNat]).toNat]).length:=aD;have hV:haveV h m x=h.k[(m.h[x.node.toNat]).toNat][x.J.toNat]:=by unfold haveV;rw [aA r,Option.getD_some,aA v,Option.getD_some,aA A];rfl
  have hb:=M.bG z;have K:=M.x x z;have u:=q.l1;have I:=q.l2;have a5:=K.1;have a6:=K.2;have n:=uW C G;rw [<- T] at n;obtain ⟨o,f⟩:∃ y,y=lJ h m l x:=⟨_,rfl⟩;have j:StOk p.vars.toNat o:=f ▸ Ab q hb K;rw [<- f] at n;have g:¬ 0<=x.x.N->o=l:=λhn=>by rw [f];unfold lJ lF;rw [if_neg (by simp [hn])]
  have E:0<=x.x.N->x.x.N.toNat<l.2.length:=λhn=>by omega
  obtain ⟨kb,U⟩:=fD (l.2[x.x.N.toNat]?.getD false);have J:0<=x.x.N\/(¬ 0<=x.x.N/\l.2[x.x.N.toNat]?=none)\/(¬ 0<=x.x.N/\l.2[x.x.N.toNat]?=some kb):=by
   by_cases F:0<=x.x.N
   .exact .inl F
   .right
    cases ho:l.2[x.x.N.toNat]? with
    | none=>exact .inl ⟨F,rfl⟩
    | some b=>rw [ho] at U;exact .inr ⟨F,by rw [U];rfl⟩
  rcases J with hc|hc|hc
  .have Y:=xa3 Y C (aA C) (Eq.symm T) (xb0 (aA r) (aA v) (aA A) (Eq.symm hV) @Slot.c.eq_1 @cL.eq_1 u I @kF @cB.eq_1 hc ((aA (E hc))));refine i7 (λh9=>?_) λh9=>?_
   .have hF:lF l x=true:=by simp only [lF,aN,decide_eq_true_eq,cD];exact ⟨hc,by simpa [aA (E hc)] using h9⟩
    unfold lJ at f;rw [if_pos hF] at f;have a0:x.x.N.toNat<l.1.length:=aD;have e1:o.1.map cI=(l.1.map cI).set x.x.N.toNat (cI (haveV h m x - x.x.add)):=by rw [f,b6]
    have e2:o.2.map cB=(l.2.map cB).set x.x.N.toNat (cB true):=by rw [f,b6]
    have a4:D.O ((l.1.map cI).set x.x.N.toNat [D.int .i64 (haveV h m x - x.x.add)])=true:=by have:=rP o.1;rw [e1] at this;exact this
    have Y:=xa5 Y e1 e2 @dLI.eq_1 @cI.eq_1 (aA a0) a4;refine wp (h:=dX (r7 x.x o.1 (by rw [j.l1];exact K) j.aM) wr wl rfl ?_);refine i7 (λa=>?_) λa=>?_
    .have hR:=eM (n.2 (by first|simpa using a|simpa [g hc.1] using a|simpa [f] using a));exact wv (h:=O _ _ (by simp [go_sem,hR]))
    .have hstep:=n.1 (by first|simpa using a|simpa [g hc.1] using a|simpa [f] using a);exact wp (h:=wx B (i+1) ⟨o,wg,(by simp [go_sem,Y]),wn,(by simp [go_sem,Y]),wn,wj,(by exact j),(by exact hstep)⟩)
   .have hF:¬ lF l x=true:=by simp only [lF,aN,decide_eq_true_eq,cD];rintro ⟨_,Z⟩;simp [aA (E hc)] at Z;simp [Z] at h9
    unfold lJ at f;rw [if_neg hF] at f;have Y:=wa Y f;refine wv (h:=dX (r7 x.x o.1 (by rw [j.l1];exact K) j.aM) wr wl rfl ?_);refine dK (λa=>?_) λa=>?_
    .have hR:=eM (n.2 (by first|simpa using a|simpa [g hc.1] using a|simpa [f] using a));exact wv (h:=O _ _ (by simp [go_sem,hR]))
    .have hstep:=n.1 (by first|simpa using a|simpa [g hc.1] using a|simpa [f] using a);exact wp (h:=wx B (i+1) ⟨o,wg,(by simp [go_sem,Y]),wn,(by simp [go_sem,Y]),wn,wj,(by exact j),(by exact hstep)⟩)
  .have Y:=xa4 Y C (aA C) (Eq.symm T) (aA r) (xb0 (aA v) (aA A) (Eq.symm hV) @Slot.c.eq_1 @cL.eq_1 u I @kF @cB.eq_1 hc.1 hc.2 (g hc.1));refine wp (h:=dX (r7 x.x o.1 (by rw [j.l1];exact K) j.aM) wr wl rfl ?_);refine i7 (λa=>?_) λa=>?_
   .have hR:=eM (n.2 (by first|simpa using a|simpa [g hc.1] using a|simpa [f] using a));exact wv (h:=O _ _ (by simp [go_sem,hR]))
   .have hstep:=n.1 (by first|simpa using a|simpa [g hc.1] using a|simpa [f] using a);exact wp (h:=wx B (i+1) ⟨o,wg,(by simp [go_sem,Y]),wn,(by simp [go_sem,Y]),wn,wj,(by exact j),(by exact hstep)⟩)
  .have Y:=xa4 Y C (aA C) (Eq.symm T) (aA r) (xb0 (aA v) (aA A) (Eq.symm hV) @Slot.c.eq_1 @cL.eq_1 u I @kF @cB.eq_1 hc.1 hc.2 (g hc.1));refine wp (h:=dX (r7 x.x o.1 (by rw [j.l1];exact K) j.aM) wr wl rfl ?_);refine i7 (λa=>?_) λa=>?_
   .have hR:=eM (n.2 (by first|simpa using a|simpa [g hc.1] using a|simpa [f] using a));exact wv (h:=O _ _ (by simp [go_sem,hR]))
   .have hstep:=n.1 (by first|simpa using a|simpa [g hc.1] using a|simpa [f] using a);exact wp (h:=wx B (i+1) ⟨o,wg,(by simp [go_sem,Y]),wn,(by simp [go_sem,Y]),wn,wj,(by exact j),(by exact hstep)⟩)
 .rw [aG aD] at G;have L:=pL G;have u:=q.l1;have Y:=wa Y u;refine wv (h:=aY (λk e H=>(e 3=.adr p.c/\e 4=.adr h.c/\e 5=.adr m.c/\e 8=.own 0 p.vars.toNat/\e 14=dI k)/\(H.get 0=some ⟨3,1,l.1.map cI,false⟩)/\(0<H.next)/\(k<=p.G.length)/\((p.G.take k).all (λx=>Be x l.1)=true)) (λk=>p.G.length - k) 0 ⟨wg,wn,wn,wi,(by rfl)⟩ λI2 a3 k e H a1=>?_);obtain ⟨E2,W,R,Z,w⟩:=a1;have Y:=xa2 Y E2 W (bL R);refine wv (h:=?_);repeat first|intro _|refine ⟨gX,?_⟩
  refine wq (λs=>?_) λs=>?_
  .have Y:=xa2 Y s (aA s) @Test.c.eq_1;refine wp (h:=dX (OY p.G[k] l.1 (by rw [q.l1];exact M.test _ (aC s)) q.aM) wr wl rfl ?_);refine i7 (λN=>?_) λN=>?_
   .have hR:eP p h m []=([],16):=by
     rw [L,if_neg];intro ha;rw [c9] at ha;have:=ha _ (aC s);simp [this] at N
    exact wv (h:=O _ _ (by simp [go_sem,hR]))
   .exact wp (h:=wx a3 (k+1) ⟨wg,wn,wn,wj,(by rw [aE s,Cz,w];simp;simpa using N)⟩)
  .rw [aG aD] at w;rw [if_pos w] at L;exact wv (h:=O _ _ (by simp [go_sem,Y,L,dLI]))
def wF (t:Types)(p:Pattern)(h:Host):Int:=if cX t p≠0 then cX t p else fX t h
theorem Fu (t:Types)(b:t.ok)(p:Pattern)(h:Host):Pua 189 [t.d,p.d,h.d] (dI (wF t p h)):=by
 refine Tz.p0 func189 rfl λQ e _=>?_;have Y:=wa @Host.d.eq_1 @Host.c.eq_1;refine wv (h:=aB (u3 t b p) wl ?_);refine dK (λa=>?_) λa=>?_
 .exact wv (h:=e _ _ (by simp [go_sem,wF,a]))
 .refine wv (h:=aB (Aj t b h) wl ?_);exact wv (h:=e _ _ (by simp [go_sem,wF,a,fX]))
theorem OH (t:Types)(i:t.ok)(p:Pattern)(h:Host)(m:Part):Pua 193 [t.d,p.d,h.d,m.d] (.tup [dLI (dV t p h m).1,dI (dV t p h m).2]):=by
 refine Tz.p0 func193 rfl λQ g _=>?_;have Y:=xa2 @Pattern.d.eq_1 @Pattern.c.eq_1 @Host.d.eq_1 @Host.c.eq_1;refine wv (h:=aB (Fu t i p h) wl ?_);refine dK (λa=>?_) λa=>?_
 .have e:dV t p h m=([],wF t p h):=by
   unfold dV wF;unfold wF at a;by_cases b:cX t p=0
   .rw [if_neg aD] at a ⊢;rw [if_pos a,if_neg aD]
   .rw [if_pos b,if_pos b]
  exact wv (h:=g _ _ (by simp [go_sem,e]))
 .have hp0:cX t p=0:=by
   unfold wF at a;refine bB λb=>?_;rw [if_pos b] at a;exact b a
  have f:fX t h=0:=by unfold wF at a;rw [if_neg aD] at a;exact a
  refine wv (h:=aB (Ai t i p.j h.j m false) wl ?_);refine dK (λj=>?_) λj=>?_
  .have e:dV t p h m=([],checkE t p.j h.j m false):=by unfold dV;rw [if_neg aD,if_neg aD,if_pos j]
   exact wv (h:=g _ _ (by simp [go_sem,e]))
  .have h5':checkE t p.j h.j m false=0:=aD;have e:dV t p h m=eP p h m []:=by unfold dV;rw [if_neg aD,if_neg aD,if_neg aD]
   refine wv (h:=aB (CY p h m (XL (Lf (.inr hp0)) (lE f) (qY (rD h5').2))) wl ?_);exact wv (h:=g _ _ (by simp [go_sem,e]))
theorem ST (l:List Part):(Jc l).1.length<=5000:=by
 unfold Jc;split
 .simp
 .simp only;omega
theorem Qj (t:Types)(p g:Graph)(a:Bool):(sH t p g a).1.length<=5000:=by
 unfold sH;split
 .simp
 .exact ST _
theorem SM (t:Types)(p g:Graph)(q:Part)(a:Bool):(n6 t p g q a).1.length<=5000:=by
 unfold n6;split
 .simp
 .split
  .simp
  .split
   .simp
   .split
    .simp
    .exact ST _
theorem UF {t:Types}{p g:Graph}{a:Bool}{m:Part}(h:m∈(sH t p g a).1):MOk t p g m:=by
 unfold sH at h;split at h
 .cases h
 .unfold Jc at h;split at h
  .cases h
  .exact Qi (S:=⟨t,p,g,_,_,a⟩) (dC h)
theorem J9 (t:Types)(F:t.ok)(p:Pattern)(h:Host)(a:Bool):Pua 134 [t.d,p.d,h.d,.bool a] (.tup [.list ((jB t p h a).1.map Mat.c),dI (jB t p h a).2]):=by
 refine Tz.pK ⟨λt=>t==13,λ_=>[]⟩ func134 rfl (λQ D=>?_);have Y:=xa2 @Pattern.d.eq_1 @Pattern.c.eq_1 @Host.d.eq_1 @Host.c.eq_1;refine wv (h:=aB (Fu t F p h) wl ?_);refine dK (λf=>?_) λf=>?_
 .have hS:jB t p h a=([],wF t p h):=by
   unfold jB wF;unfold wF at f;by_cases r:cX t p=0
   .rw [if_neg aD] at f ⊢;rw [if_pos f,if_neg aD]
   .rw [if_pos r,if_pos r]
  exact wv (h:=D _ _ (by simp [go_sem,hS]))
 .have hp0:cX t p=0:=by
   unfold wF at f;refine bB λr=>?_;rw [if_pos r] at f;exact r f
  have C:fX t h=0:=by unfold wF at f;rw [if_neg aD] at f;exact f
  have l:∀ x∈(sH t p.j h.j a).1,MOk t p.j h.j x:=λx J=>UF J;refine wv (h:=aB (TM t F p.j h.j a) wl ?_);refine dK (λI=>?_) λI=>?_
  .have hS:jB t p h a=([],(sH t p.j h.j a).2):=by unfold jB;rw [if_neg aD,if_neg aD,if_pos I]
   exact wv (h:=D _ _ (by simp [go_sem,hS]))
  .have hS:jB t p h a=(wR p h [] (sH t p.j h.j a).1,0):=by unfold jB;rw [if_neg aD,if_neg aD,if_neg aD]
   obtain ⟨L,G⟩:=fD ((sH t p.j h.j a).1);have m:=Qj t p.j h.j a;rw [<- G] at hS l m;have E:=l;have Y:=wa Y (Eq.symm G);refine wv (h:=aY (λi e H=>∃ k:List Mat,(e 4=.adr t.c/\e 5=.adr p.c/\e 6=.adr h.c/\e 3=.bool a/\e 11=.list (L.map Part.c)/\e 13=.own 0 k.length/\e 14=dI i)/\(H.get 0=some ⟨65,3,k.map Mat.c,false⟩)/\(0<H.next)/\(i<=L.length)/\(k=wR p h [] (L.take i))/\(k.length<=i)/\(L.length<=5000)) (λi=>L.length - i) 0 ⟨([]),wg,wn,wn,wi,(by rfl),(by simp),(by exact m)⟩ λO u i e H B=>?_);obtain ⟨k,M,w,q,N,j,K,s⟩:=B;have Y:=xa2 Y M w (bL q);refine i7 (λo=>?_) λo=>?_
   .obtain ⟨v,z⟩:=fD (eP p h L[i] []);obtain ⟨g,b⟩:∃ y,y=k++if v.2=0 then [(⟨L[i],v.1⟩:Mat)] else []:=⟨_,rfl⟩
    have Y:=xa2 Y o (aA o) @Part.c.eq_1;refine wp (h:=aI ((by have A:=CY p h L[i] (XL (Lf (.inr hp0)) (lE C) (E _ (aC o)));rw [<- z] at A;unfold Pattern.d Pattern.c Host.d Host.c Part.d Part.c dLI dI at A;exact A)) wl ?_);refine i7 (λn=>?_) λn=>?_
    .have hm3:g=k++[⟨L[i],v.1⟩]:=by rw [b,if_pos (eQ n)]
     have Y:=xa1 Y hm3 @Mat.c.eq_1;exact wp (h:=wx u (i+1) ⟨g,wg,wn,wn,wj,(by rw [aE o,qP,<- j,<- z];exact b),(by rw [b];split<;>simp<;>omega),(by exact s)⟩)
    .have hm3:g=k:=by rw [b,if_neg (eQ n),dS]
     have Y:=wa Y hm3;exact wp (h:=wx u (i+1) ⟨g,wg,wn,wn,wj,(by rw [aE o,qP,<- j,<- z];exact b),(by rw [b];split<;>simp<;>omega),(by exact s)⟩)
   .rw [aG aD] at j;exact wv (h:=D _ _ (by simp [go_sem,Y,hS,<- j]))
end Go.Abs
end

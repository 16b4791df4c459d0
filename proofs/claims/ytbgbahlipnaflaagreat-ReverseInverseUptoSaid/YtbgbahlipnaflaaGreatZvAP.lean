/- Attributes: the types' bounds, subtypes have them first. · H -/
import Derived.Test.YtbgbahlipnaflaaGreatZvAO
import Derived.Test.YtbgbahlipnaflaaGreatZvAG
import Derived.Test.YtbgbahlipnaflaaGreatZvAA
import Derived.Test.YtbgbahlipnaflaaGreatZvAK
set_option linter.unusedVariables false
set_option linter.unusedSimpArgs false
section
set_option maxRecDepth 100000
set_option maxHeartbeats 4000000
open Go Go.Proofs Tryz
namespace Go.Abs
structure SmallA (x:Attr):Prop where
 lo : -1000000<=x.ao
 hi:x.az<=1000000
 le:x.ao<=x.az
theorem Hq {x:Attr}{b:List Attr}(h:eD x b=0):SmallA x:=by
 unfold eD at h;split at h<;>try (cases h;done)
 split at h<;>try (cases h;done)
 split at h
 .exact absurd h ic
 .rename_i h3;split at h
  .rename_i h4;split at h
   .rename_i h5;have a:x.af.length<=20:=by
     refine aY λc=>h3 ?_;unfold pS;rw [if_pos aD];decide
    simp at h5;exact ⟨aD,aD,aD⟩
   .cases h
  .split at h
   .rename_i h5;simp at h5;exact ⟨aD,aD,aD⟩
   .cases h
theorem QT {t:Types}{a:Nat}(b:a<t.h.length)(h:i4 t a=0):∀ k,(t.r a).length - t.h[a].r.length<=k->∀ hk:k<(t.r a).length,SmallA (t.r a)[k]:=by
 rw [D0 t a b] at h;split at h<;>try (cases h;done)
 split at h<;>try (cases h;done)
 split at h<;>try (cases h;done)
 split at h<;>try (cases h;done)
 split at h<;>try (cases h;done)
 intro k c hk;have:=eU _ _ h k c aD;unfold Cu at this;rw [aA hk] at this;exact Hq this
theorem R3 {t:Types}(g:(dG t).2=0):∀ a:Nat,a<t.h.length->∀ x∈t.r a,SmallA x:=by
 have c:=nI g;have f:∀ j,j<t.h.length->i4 t j=0:=by
  have h:=g;unfold dG at h;split at h
  .simp at h
  .split at h
   .simp at h
   .obtain ⟨f,_⟩:=tV _ _ h;exact λj p=>f j aD aD
 intro a;induction a using Nat.strongRecOn with
 | _ a ih =>
 intro e x m;have b:=FL t a e (c.ax a);have i:=c.E a _ (aA e);obtain ⟨k,l,rfl⟩:=aO m;by_cases q:k<(t.r a).length - t.h[a].r.length
 .by_cases hp:0<=t.h[a].E
  .rw [if_pos hp] at b;have n:(t.r a).length=(t.r t.h[a].E.toNat).length+t.h[a].r.length:=by rw [b];simp
   have d:k<(t.r t.h[a].E.toNat).length:=aD;have o:(t.r a)[k]=(t.r t.h[a].E.toNat)[k]:=by
    have:(t.r a)[k]?=(t.r t.h[a].E.toNat)[k]?:=by rw [b,aS d]
    rw [aA l,aA d] at this;exact Option.some.inj this
   rw [o];exact ih _ aD aD _ (aC d)
  .rw [if_neg hp] at b;have n:(t.r a).length=t.h[a].r.length:=by rw [b];simp
   omega
 .exact QT e (f a e) k aD l
theorem Nv {t:Types}(c:t.aq):∀ b:Nat,b<t.h.length->∀ a:Nat,mem (t.aw b) (a:Int)=true->∃ r,t.r b=t.r a++r:=by
 intro b;induction b using Nat.strongRecOn with
 | _ b ih =>
 intro d a hm;have e:=c.E b _ (aA d);rw [A0 t b d (c.ax b),x8,c8] at hm;rcases hm with hm|hm
 .by_cases h0:0<=t.h[b].E
  .rw [if_pos h0] at hm;obtain ⟨r,f⟩:=ih t.h[b].E.toNat aD aD a hm;exact ⟨r++t.h[b].r,by rw [FL t b d (c.ax b),if_pos h0,f,List.append_assoc]⟩
  .rw [if_neg h0,BB] at hm;cases hm
 .simp at hm;have:a=b:=aD;subst this;exact ⟨[],by simp⟩
structure SOk (p:Pattern) (h:Host) (m:Part):Prop where
 vars:0<=p.vars/\p.vars<=12
 node:∀ s∈p.l,0<=s.node/\s.node<m.h.length
 b5:∀ k∈m.h,0<=k/\k<h.k.length
 J:∀ s∈p.l,0<=s.J/\s.J<(h.k[(m.h[s.node.toNat]?.getD 0).toNat]?.getD []).length
 bO:∀ l∈h.k,∀ v∈l,-1000000<=v/\v<=1000000
 y:∀ s∈p.l,rH s.y p.vars.toNat
 ef:∀ x∈p.G,KL x p.vars.toNat
theorem uK {t:Types}(b:(dG t).2=0){a:Int}(d:0<=a)(c:a<t.h.length):bL t a=t.r a.toNat:=by
 unfold bL;rw [if_pos];simp [given2F,b,insideF,d,c]
theorem pV {t:Types}(b:(dG t).2=0)(a:Int):(bL t a).length<=8:=by
 by_cases h:0<=a/\a<t.h.length
 .rw [uK b h.1 h.2];exact (nI b).r _ aD
 .unfold bL;rw [if_neg (by simp [given2F,b,insideF];omega)];simp
theorem EE {t:Types}(b:(dG t).2=0)(a:Int):∀ x∈bL t a,SmallA x:=by
 by_cases h:0<=a/\a<t.h.length
 .rw [uK b h.1 h.2];exact R3 b _ aD
 .unfold bL;rw [if_neg (by simp [given2F,b,insideF];omega)];simp
structure HostOk (t:Types) (h:Host):Prop where
 vf:(dG t).2=0
 gg:graphF h.j=0
 vl:h.k.length=h.j.h.length
 nd:∀ (i:Nat) (hi:i<h.j.h.length) (hv:i<h.k.length),jA t h.j.h[i] h.k[i]=0
 ed:∀ x∈h.j.i,x.type<t.i.length/\p6 t x.type (gN h.j x.w) (gN h.j x.M)=true
theorem lK {t:Types}{h:Host}(a:fG t h=0):HostOk t h:=by
 unfold fG mI at a;split at a
 .rename_i h1;exact absurd a h1
 .rename_i h1;split at a
  .rename_i h2;exact absurd a h2
  .rename_i h2;split at a
   .cases a
   .rename_i h3;split at a
    .rename_i h4;exact absurd a h4
    .rename_i h4;rw [iM] at h4;rw [wM] at h4 a;refine ⟨aD,aD,aD,λi e c=>?_,λx b=>?_⟩
     .have:=eU _ _ h4 i (eL _) aD;simpa only [He,aA e,aA c,Option.getD_some] using this
     .obtain ⟨k,d,rfl⟩:=aO b;have:=eU _ _ a k (eL _) aD;simp only [Wu,aA d,Option.getD_some] at this;split at this
      .cases this
      .split at this
       .exact ⟨aD,by assumption⟩
       .cases this
theorem pJ {t:Types}{k:Int}{vs:V2}(h:jA t k vs=0):k<t.h.length/\oH t k.toNat=false/\vs.length=(bL t k).length /\
  ∀ (j:Nat) (a:j<vs.length) (b:j<(bL t k).length),(bL t k)[j].ao<=vs[j]/\vs[j]<=(bL t k)[j].az:=by
 unfold jA at h;split at h
 .cases h
 .rename_i h1;split at h
  .cases h
  .rename_i h2;split at h
   .cases h
   .rename_i h3;refine ⟨aD,by simpa using h2,aD,λj a b=>?_⟩;have:=eU _ _ h j (eL _) aD;simp only [D4,aA a,aA b,Option.getD_some] at this;split at this
    .cases this
    .omega
theorem HostOk.row {t:Types}{h:Host}(ho:HostOk t h):∀ v∈h.k,v.length<=8/\∀ x∈v,-1000000<=x/\x<=1000000:=λv hv=>by
 obtain ⟨i,hi,rfl⟩:=aO hv;have hn:=ho.vl;obtain ⟨h1,h2,h3,h4⟩:=pJ (ho.nd i aD hi);have hl:=pV ho.vf (h.j.h[i]' aD);refine ⟨aD,λx hx=>?_⟩;obtain ⟨j,hj,rfl⟩:=aO hx;have:=h4 j hj aD;have hs:=EE ho.vf _ _ (aC (show j<(bL t (h.j.h[i]' aD)).length by omega));have:=hs.lo;have:=hs.hi;omega
/-! ### a host in owned slices -/
def mH (qs:List Nat)(vs:Yb):UE:=List.zipWith (λq (v:V2)=>[D.own q v.length]) qs vs
theorem kH {a:List Nat}{vs:Yb}(h:a.length=vs.length):(mH a vs).length=vs.length:=by simp [mH,h]
theorem y6 {a:List Nat}{vs:Yb}(h:a.length=vs.length)(q:Nat)(v:V2):mH (a++[q]) (vs++[v])=mH a vs++[[.own q v.length]]:=by
 simp [mH,List.zipWith_append h]
theorem uA {a:List Nat}{vs:Yb}{i q:Nat}{v:V2}(c:a[i]?=some q)(b:vs[i]?=some v):(mH a vs)[i]?=some [.own q v.length]:=by
 simp [mH,List.getElem?_zipWith,c,b]
theorem VA {a:List Nat}{vs:Yb}{i:Nat}{v b:V2}(c:vs[i]?=some v)(d:b.length=v.length):mH a (vs.set i b)=mH a vs:=by
 apply gA;intro j;simp only [mH,List.getElem?_zipWith,dL];by_cases h:i=j
 .subst h;have e:=(aQ.1 c).1;rw [if_pos rfl,if_pos e,c];cases a[i]?<;>simp [d]
 .rw [if_neg h]
structure HH (H:AHeap) (lo a b V:Nat) (qs:List Nat) (h:Host):Prop where
 ga:H.get a=some ⟨3,1,h.j.h.map cI,false⟩
 gb:H.get b=some ⟨145,3,h.j.i.map Edge.c,false⟩
 gV:H.get V=some ⟨26,1,mH qs h.k,false⟩
 len:qs.length=h.k.length
 gq:∀ (i q:Nat) (v:V2),qs[i]?=some q->h.k[i]?=some v->H.get q=some ⟨3,1,v.map cI,false⟩
 nd:(a :: b :: V :: qs).Nodup
 W:∀ q∈a :: b :: V :: qs,lo<=q/\q<H.next
section
variable {H H':AHeap} {lo a b V:Nat} {qs:List Nat} {x:Host}
theorem HH.bs (h:HH H lo a b V qs x):a∈a :: b :: V :: qs:=aE
theorem HH.br (h:HH H lo a b V qs x):b∈a :: b :: V :: qs:=aE
theorem HH.bN (h:HH H lo a b V qs x):V∈a :: b :: V :: qs:=aE
theorem HH.bm (h:HH H lo a b V qs x){q:Nat}(c:q∈qs):q∈a :: b :: V :: qs:=by simp [c]
theorem HH.ab (h:HH H lo a b V qs x):a≠b/\a≠V/\b≠V:=by
 have:=h.nd;simp only [iX,aW,not_or] at this;exact ⟨this.1.1,this.1.2.1,this.2.1.1⟩
theorem HH.qn (h:HH H lo a b V qs x){q:Nat}(c:q∈qs):q≠a/\q≠b/\q≠V:=by
 have:=h.nd;simp only [iX,aW,not_or] at this;exact ⟨λe=>this.1.2.2 (e ▸ c),λe=>this.2.1.2 (e ▸ c),λe=>this.2.2.1 (e ▸ c)⟩
theorem HH.gm (h:HH H lo a b V qs x){lo':Nat}(hl:lo'<=lo):HH H lo' a b V qs x:=⟨h.ga,h.gb,h.gV,h.len,h.gq,h.nd,λq hq=>⟨dZ hl (h.W q hq).1,(h.W q hq).2⟩⟩
theorem HH.same (h:HH H lo a b V qs x)(hn:H.next<=H'.next)(hf:∀ j∈a :: b :: V :: qs,H'.get j=H.get j):HH H' lo a b V qs x where
 ga:=(hf a h.bs).trans h.ga
 gb:=(hf b h.br).trans h.gb
 gV:=(hf V h.bN).trans h.gV
 len:=h.len
 gq i q v h1 h2:=(hf q (h.bm (aL h1))).trans (h.gq i q v h1 h2)
 nd:=h.nd
 W q hq:=⟨(h.W q hq).1,dE (h.W q hq).2 hn⟩
theorem HH.h (h:HH H lo a b V qs x)(hn:H.next<=H'.next){ns:V2}(ga:H'.get a=some ⟨3,1,ns.map cI,false⟩)(hf:∀ j∈b :: V :: qs,H'.get j=H.get j):HH H' lo a b V qs ⟨⟨ns,x.j.i⟩,x.k⟩ where
 ga:=ga
 gb:=(hf b aE).trans h.gb
 gV:=(hf V aE).trans h.gV
 len:=h.len
 gq i q v h1 h2:=(hf q (by simp [aL h1])).trans (h.gq i q v h1 h2)
 nd:=h.nd
 W q hq:=⟨(h.W q hq).1,dE (h.W q hq).2 hn⟩
theorem HH.i (h:HH H lo a b V qs x)(hn:H.next<=H'.next){es:List Edge}(gb:H'.get b=some ⟨145,3,es.map Edge.c,false⟩)(hf:∀ j∈a :: V :: qs,H'.get j=H.get j):HH H' lo a b V qs ⟨⟨x.j.h,es⟩,x.k⟩ where
 ga:=(hf a aE).trans h.ga
 gb:=gb
 gV:=(hf V aE).trans h.gV
 len:=h.len
 gq i q v h1 h2:=(hf q (by simp [aL h1])).trans (h.gq i q v h1 h2)
 nd:=h.nd
 W q hq:=⟨(h.W q hq).1,dE (h.W q hq).2 hn⟩
theorem HH.dj (h:HH H lo a b V qs x)(hn:H.next<=H'.next){q:Nat}{v:V2}(hlo:lo<=q)(hq:∀ j∈a :: b :: V :: qs,j≠q)(hq2:q<H'.next)(gq:H'.get q=some ⟨3,1,v.map cI,false⟩)
  (gV:H'.get V=some ⟨26,1,mH qs x.k++[[.own q v.length]],false⟩) (hf:∀ j∈a :: b :: qs,H'.get j=H.get j):HH H' lo a b V (qs++[q]) ⟨x.j,x.k++[v]⟩ where
 ga:=(hf a aE).trans h.ga
 gb:=(hf b aE).trans h.gb
 gV:=by rw [y6 h.len];exact gV
 len:=by simp [h.len]
 gq i q' v' h1 h2:=by
  by_cases hi:i<qs.length
  .rw [aS hi] at h1;rw [aS (by rw [<- h.len];exact hi)] at h2;exact (hf q' (by simp [aL h1])).trans (h.gq i q' v' h1 h2)
  .have h1':=(aQ.1 h1).1;have:i=qs.length:=by simp at h1';omega
   subst this;simp at h1;rw [h.len] at h2;simp at h2;subst h1 h2;exact gq
 nd:=by
  have:=h.nd;have e:a :: b :: V :: (qs++[q])=(a :: b :: V :: qs)++[q]:=rfl;rw [e,pC];exact ⟨this,by simp,λy hy z hz=>by rw [bD] at hz;subst hz;exact hq y hy⟩
 W j hj:=by
  have e:a :: b :: V :: (qs++[q])=(a :: b :: V :: qs)++[q]:=rfl;rw [e,aZ,bD] at hj;rcases hj with hj|rfl
  .exact ⟨(h.W j hj).1,dE (h.W j hj).2 hn⟩
  .exact ⟨hlo,hq2⟩
theorem HH.eo (h:HH H lo a b V qs x)(hn:H.next<=H'.next){i q:Nat}{v v':V2}(h1:qs[i]?=some q)(h2:x.k[i]?=some v)(hl:v'.length=v.length)(gq:H'.get q=some ⟨3,1,v'.map cI,false⟩)
  (hf:∀ j∈a :: b :: V :: qs,j≠q->H'.get j=H.get j):HH H' lo a b V qs ⟨x.j,x.k.set i v'⟩ where
 ga:=(hf a h.bs (Ne.symm (h.qn (aL h1)).1)).trans h.ga
 gb:=(hf b h.br (Ne.symm (h.qn (aL h1)).2.1)).trans h.gb
 gV:=by rw [VA h2 hl];exact (hf V h.bN (Ne.symm (h.qn (aL h1)).2.2)).trans h.gV
 len:=by simp [h.len]
 gq j q' w k1 k2:=by
  have hqn:qs.Nodup:=by have:=h.nd;simp only [iX] at this;exact this.2.2.2
  rw [dL] at k2;by_cases hj:i=j
  .subst hj;rw [h1] at k1;cases k1
   rw [if_pos rfl] at k2;split at k2
   .cases k2;exact gq
   .cases k2
  .rw [if_neg hj] at k2;refine (hf q' (h.bm (aL k1)) λe=>hj ?_).trans (h.gq j q' w k1 k2);subst e;obtain ⟨a1,a2⟩:=aQ.1 h1;obtain ⟨b1,b2⟩:=aQ.1 k1;exact (i6 hqn).1 (a2.trans b2.symm)
 nd:=h.nd
 W q hq:=⟨(h.W q hq).1,dE (h.W q hq).2 hn⟩
theorem HH.g1 (h:HH H lo a b V qs x):(mH qs x.k).map (·.map (f5 H))=x.k.map cL:=by
 apply gA;intro i;simp only [aN];by_cases d:i<x.k.length
 .have hq:i<qs.length:=by rw [h.len];exact d
  have c:=aA d;have e:=aA hq;rw [uA e c,c];have:=h.gq i _ _ e c;simp [f5,this,cL,dLI]
 .rw [b9 (by rw [kH h.len];omega),b9 aD];rfl
theorem HH.de (h:HH H lo a b V qs x):lB H (.agg [.own a x.j.h.length,.own b x.j.i.length,.own V x.k.length])=x.d:=by
 have j:∀ l:UE,(∀ c∈l,∀ y∈c,∀ i n,y≠D.own i n/\∀ p q r,y≠D.win i p q r)->l.map (·.map (f5 H))=l:=λl g=>by
  conv=>rhs;rw [<- List.map_id l]
  refine b8 λc f=>?_;conv=>rhs;rw [id,<- List.map_id c]
  refine b8 λy e=>?_;cases y<;>first|rfl|(exfalso;first|exact (g c f _ e _ _).1 rfl|exact (g c f _ e _ 0).2 _ _ _ rfl)
 simp only [lB,rJ,i5,j7,h.ga,h.gb,h.gV,aR,kH h.len,if_true,h.g1];rw [j (x.j.h.map cI) (λc f y e i n=>by
  rw [aT] at f;obtain ⟨z,_,rfl⟩:=f;simp [cI] at e;subst e;simp),j (x.j.i.map Edge.c) (λc f y e i n=>by
  rw [aT] at f;obtain ⟨z,_,rfl⟩:=f;simp [Edge.c,dI] at e;rcases e with rfl|rfl|rfl<;>simp)]
 rfl
theorem Rj {l:UE}(d:∀ c∈l,∀ y∈c,mM y=[]):l.flatten.flatMap mM=[]:=by
 rw [lO];intro i a;rw [bQ] at a;obtain ⟨y,b,a⟩:=a;rw [j6] at b;obtain ⟨c,e,b⟩:=b;rw [d c e y b] at a;cases a
theorem HH.hq (h:HH H lo a b V qs x)(n m k:Nat)(e:Int):∀ i∈Cr H (.tup [.agg [.own a n,.own b m,.own V k],dI e]),i∈a :: b :: V :: qs:=by
 intro i hi;have l:(x.j.h.map cI).flatten.flatMap mM=[]:=Rj λc f y d=>by
  rw [aT] at f;obtain ⟨z,_,rfl⟩:=f;simp [cI] at d;subst d;rfl
 have g:(x.j.i.map Edge.c).flatten.flatMap mM=[]:=Rj λc f y d=>by
  rw [aT] at f;obtain ⟨z,_,rfl⟩:=f;simp [Edge.c,dI] at d;rcases d with rfl|rfl|rfl<;>rfl
 simp only [Cr,JR,OH,pE,LW,h.ga,h.gb,h.gV,l,g,dI,mM,dU,aZ,aW,f7,or_false] at hi;rcases hi with rfl|rfl|rfl|hi
 .exact h.bs
 .exact h.br
 .exact h.bN
 .rw [bQ] at hi;obtain ⟨y,d,hi⟩:=hi;rw [j6] at d;obtain ⟨c,f,d⟩:=d;simp only [mH] at f;obtain ⟨j,o,rfl⟩:=aO f;rw [List.getElem_zipWith,bD] at d;subst d;simp only [mM,bD] at hi;subst hi;exact h.bm (aC _)
end
theorem Sd (h:Host):D.L h.c=true:=by simp [Host.c,D.L,D.Q,rA,yJ];exact d9 _ (λv=>by simp [cL,D.L,rA]) _
@[go_sem] theorem Host.hd (h:Host):h.d.Q=true:=by simp [Host.d,D.Q,Sd]
/-! ### Extract -/
def exE (t:Types)(h:Host)(p:Part):Int:=if fG t h≠0 then fG t h else subF h.j p
def YY (t:Types)(h:Host)(p:Part):Host:=if exE t h p=0 then ⟨cJ h.j p,p.h.map λk=>h.k[k.toNat]?.getD []⟩ else ⟨⟨[],[]⟩,[]⟩
theorem Lt (t:Types)(J:t.ok)(h:Host)(p:Part)(O:p.h.length<=1000000)(C:p.i.length<=1000000):Pua 174 [t.d,h.d,p.d] (.tup [(YY t h p).d,dI (exE t h p)]):=by
 refine Tz.pK ⟨λt=>t==6||t==10||t==11||t==13||t==48,λr=>match r with|11=>[(0,2),(1,2),(2,3),(2,4),(2,5),(2,6),(2,8),(2,9),(2,10),(2,11),(0,12),(1,12),(0,13),(1,13)]|_=>[]⟩ func174 rfl (λQ E=>?_);have Y:=wa @Host.d.eq_1 @Host.c.eq_1;refine wv (h:=aB (jO t J h) wl ?_);refine dR (λT=>?_) λT=>?_
 .have z:exE t h p=(mI t h).2:=by unfold exE;rw [if_pos (by unfold fG;omega)];rfl
  have q:YY t h p=⟨⟨[],[]⟩,[]⟩:=by unfold YY;rw [if_neg aD]
  exact wv (h:=E _ _ (by simp [go_sem,z,q,dLI]))
 .have h0:fG t h=0:=by unfold fG;omega
  have z:exE t h p=subF h.j p:=by unfold exE;rw [if_neg aD]
  have B:=lK h0;have o:=B.row;have P:=bK B.gg;have I:=B.vl;refine wv (h:=aB (wZ h.j p O C) wl ?_);refine dR (λS=>?_) λS=>?_
  .have q:YY t h p=⟨⟨[],[]⟩,[]⟩:=by unfold YY;rw [if_neg aD]
   exact wv (h:=E _ _ (by simp [go_sem,z,q,dLI]))
  .have h5':subF h.j p=0:=aD;obtain ⟨M,L,A,K⟩:=nQ h5';have R:Gr h.j p=p:=by unfold Gr;rw [if_pos h5']
   have q:YY t h p=⟨cJ h.j p,p.h.map λk=>h.k[k.toNat]?.getD []⟩:=by unfold YY;rw [if_pos aD]
   have Y:=xa4 Y R @Part.d.eq_1 @Part.c.eq_1 @Graph.d.eq_1 @Graph.c.eq_1;refine wv (h:=l9 (Ghosts.step (Ghosts.refl _) 3 0 2 26 1 _ _ (ig) rfl rfl rfl) (λi e H=>∃ a:Yb,(e 3=.adr t.c/\e 4=.adr h.c/\e 5=.adr p.c/\e 6=.ptr 0 1 0 0/\e 10=.ptr 1 1 0 0/\e 11=.ptr 2 1 0 0/\e 13=.ptr 3 1 0 0/\e 14=dI i)/\(H.get 0=some ⟨44,3,[[.nil,.nil,.nil]],false⟩)/\(0<H.next)/\(H.get 1=some ⟨29,2,[(cJ h.j p).c],false⟩)/\(1<H.next)/\(H.get 2=some ⟨36,2,[p.c],false⟩)/\(2<H.next)/\(H.get 3=some ⟨44,3,[[dLI (cJ h.j p).h,.list ((cJ h.j p).i.map Edge.c),.own 4 a.length]],false⟩)/\(3<H.next)/\(H.get 4=some ⟨26,1,a.map cL,false⟩)/\(4<H.next)/\(i<=p.h.length)/\(a=(p.h.take i).map λk=>h.k[k.toNat]?.getD [])/\(a.length=i)) (λi=>p.h.length - i) 0 ⟨([]),wg,wn,wn,wn,wn,wn,wn,wn,wn,wn,wn,wi,(by rfl),(by rfl)⟩ λW F i e H D=>?_);obtain ⟨a,U,y,m,x,l,w,j,v,g,u,f,V,n,G⟩:=D;have Y:=xb0 Y U y (bS m) x (bS l) w (bS j) v (bS g) u (bS f);refine iY (λs=>?_) λs=>?_
   .have hk:=A _ (aC s);have b:p.h[i].toNat<h.k.length:=aD;have N:=(o _ (aC b)).1;have Y:=xa3 Y s (aA s) (aA b) @cL.eq_1;exact wp (h:=wx F (i+1) ⟨(a++[h.k[p.h[i].toNat]]),wg,wn,wn,wn,wn,wn,wn,wn,wn,wn,wn,wj,(by rw [j8 _ s,<- n,aA b];rfl),ie⟩)
   .have hVS:a=p.h.map λk=>h.k[k.toNat]?.getD []:=by rw [n,lS _ aD]
    exact wv (h:=E _ _ (by simp [go_sem,Y,z,q,h5',hVS,cL]))
theorem Lu (h:Host)(hn:h.j.h.length<=100000)(he:h.j.i.length<=100000)(hv:h.k.length<=100000)(S:∀ v∈h.k,v.length<=100000)(G:AHeap)(Q:D->AHeap->Prop)
  (hQ:∀ a b V qs H',HH H' G.next a b V qs h->(∀ j,j<G.next->H'.get j=G.get j)->G.next<=H'.next->Q (.agg [.own a h.j.h.length,.own b h.j.i.length,.own V h.k.length]) H'):ACalls prog 98 [h.d] G Q:=by
 refine (Tz.cK ⟨λt=>t==2||t==3||t==18||t==1000001,λr=>match r with|5=>[(0,2),(1,2),(2,3),(2,4),(2,6),(2,7),(0,8),(1,8),(0,9),(1,9)]|_=>[]⟩ func98 rfl ?_);have Y:=wa @Host.d.eq_1 @Host.c.eq_1;refine wv (h:=?_);unfold fT;refine pG h.j aD aD _ _ (λa b g ha W Z X U C B u y=>?_);simp [go_sem] at ha W y;have o:=u G.next eq;simp [go_sem] at o;have s:∀ j,j<G.next->g.get j=G.get j:=λj hj=>by
  rw [u j ib];simp [go_sem,(aD:j≠G.next)]
 have M:=Sk g.next;have I:=xa1 (bS (aD:a<g.next)) (bS (aD:b<g.next)) (bS (aD:G.next<g.next));have K:=xa1 (dJ (aD:G.next≠b)) (dJ (aD:G.next≠a)) (dJ (aD:b≠a));have Y:=xa5 Y I K C B o M;refine wv (h:=l9 (Ghosts.step (Ghosts.refl _) g.next 0 2 26 1 _ _ (ig) rfl rfl rfl) (λi e H=>∃ R:Nat,∃ c:Nat,∃ V:Nat,∃ qs:List Nat,(e 1=.adr h.c/\e 2=.ptr R 1 0 0/\e 3=.ptr c 1 0 0/\e 4=dI i)/\(H.get R=some ⟨44,3,[[.nil,.nil,.nil]],false⟩)/\(R<H.next)/\(H.get c=some ⟨44,3,[[.own a h.j.h.length,.own b h.j.i.length,.own V i]],false⟩)/\(c<H.next)/\(H.get V=some ⟨26,1,mH qs (h.k.take i),false⟩)/\(V<H.next)/\(i<=h.k.length)/\(HH H (G.next+1) a b V qs ⟨h.j,h.k.take i⟩)/\((a<c/\b<c/\c<V/\V<H.next/\R<a/\R<b/\R<c/\G.next<=R))/\(∀ q∈qs,V<q)/\(∀ j,j<G.next->H.get j=G.get j)/\(G.next<=H.next)) (λi=>h.k.length - i) 0 ⟨G.next,g.next,(g.next+1),([]),wg,wn,wn,wn,wn,(by simp [go_sem,Y,mH]),wn,wi,(by refine ⟨by simp [go_sem,Y],by simp [go_sem,Y],by simp [go_sem,mH],rfl,by simp,by simp;omega,by simp [go_sem];omega⟩),ib,(by intro q n;cases n),(by intro j hj;simp [go_sem,(aD:j≠g.next),(aD:j≠g.next+1)];exact s j hj),ib⟩ λI0 F i e H A=>?_);obtain ⟨R,c,V,qs,E0,gR_0,nR_0,w,l,gV_0,nV_0,hi,f,hc,n,L,T⟩:=A;have J:=xa8 (dJ (aD:R≠V)) (dJ (aD:R≠c)) (dJ (aD:R≠b)) (dJ (aD:R≠a)) (dJ (aD:V≠c)) (dJ (aD:V≠b)) (dJ (aD:V≠a)) (dJ (aD:c≠b)) (dJ (aD:c≠a)) (dJ (aD:b≠a));have Y:=xa8 Y @Host.c.eq_1 E0 gR_0 (bS nR_0) w (bS l) gV_0 (bS nV_0) J;refine iY (λk=>?_) λk=>?_
 .have hr8:=S _ (aC k);have p:∀ j∈a :: b :: qs,j≠V/\j≠c/\j<H.next:=λj hj=>by
   simp only [aW] at hj;rcases hj with rfl|rfl|hj
   .exact ⟨aD,aD,(f.W _ f.bs).2⟩
   .exact ⟨aD,aD,(f.W _ f.br).2⟩
   .have:=n j hj;exact ⟨aD,aD,(f.W _ (f.bm hj)).2⟩
  have x:(mH qs (h.k.take i)).length=i:=by rw [kH f.len];simp;omega
  have Y:=xa3 Y k (aA k) @cL.eq_1 x;exact wp (h:=wx F (i+1) ⟨R,c,V,(qs++[H.next+2]),wg,wn,wn,wn,wn,(by rw [List.take_succ_eq_append_getElem k,y6 f.len];simp [go_sem,Y,cL]),wn,wj,(by rw [List.take_succ_eq_append_getElem k];exact f.dj ge aD (λj hj=>by have:=(f.W j hj).2;omega) eq cl (by simp [go_sem,Y,cL]) (λj hj=>by obtain ⟨P,O,N⟩:=p j hj;simp [go_sem,P,O,bS N])),ib,(by intro q m;rw [aZ,bD] at m;rcases m with h1|rfl;exact n q h1;omega),(by intro j hj;simp [go_sem,(aD:j≠H.next+2),(aD:j≠V),(aD:j≠c)];exact L j hj),ib⟩)
 .rw [aG aD] at f;have z:i=h.k.length:=aD;have E:∀ j∈a :: b :: V :: qs,j≠R:=λj hj=>by
   simp only [aW] at hj;rcases hj with rfl|rfl|rfl|hj
   .omega
   .omega
   .omega
   .have:=n j hj;omega
  refine wv (h:=?_);rw [z];exact hQ a b V qs _ ((f.gm aD).same eq (λj hj=>by simp [go_sem,E j hj])) (λj hj=>by simp [go_sem,(aD:j≠R)];exact L j hj) ib
/-! ### exact numbers -/
def IJ (l l1:List Nat)(j:Nat):Nat:=if j∈l then l1[l.idxOf j]?.getD 0 else j
theorem DC {l a:List Nat}(e:l.Nodup){i j b:Nat}(h:l[i]?=some j)(f:a[i]?=some b):IJ l a j=b:=by
 obtain ⟨c,d⟩:=aQ.1 h;unfold IJ;rw [if_pos (d ▸ aC c)];have:l.idxOf j=i:=by rw [<- d];exact e.idxOf_getElem i c
 rw [this,f];rfl
theorem AJ {l a:List Nat}{j:Nat}(h:j∉l):IJ l a j=j:=by unfold IJ;rw [if_neg h]
theorem AX {τ:Nat->Nat}{l:UE}(b:∀ c∈l,∀ y∈c,CE τ y=y):l.map (·.map (CE τ))=l:=by
 conv=>rhs;rw [<- List.map_id l]
 refine b8 λc d=>?_;conv=>rhs;rw [id,<- List.map_id c]
 exact b8 λy a=>b c d y a
theorem HH.exact {H H1 E:AHeap}{lo a0 a b V a1 b1 V1:Nat}{N t:List Nat}{x:Host}(G:HH E lo a b V N x)(M:HH H1 a0 a1 b1 V1 t x)
  (a2:∀ j,H.F j->j<H.next) (O:∀ j,¬ H.F j->H.get j=none) (He:H.next<=E.next)
  (g:∀ j,E.F j↔H.F j\/j∈a :: b :: V :: N) (Y:∀ j,H.F j->j∉a :: b :: V :: N->H1.get j=H.get j) (Q:∀ j,j∉a :: b :: V :: N->E.get j=H.get j)
  (f:∀ (i j F:Nat),(a :: b :: V :: N)[i]?=some j->(a1 :: b1 :: V1 :: t)[i]?=some F->(H.F j->F=j)/\(¬ H.F j->¬ H.F F)) :
  ∃ τ,Exact H H1 E τ/\.agg [.own a1 x.j.h.length,.own b1 x.j.i.length,.own V1 x.k.length]=Xv τ (.agg [.own a x.j.h.length,.own b x.j.i.length,.own V x.k.length])/\okC E.F (.agg [.own a x.j.h.length,.own b x.j.i.length,.own V x.k.length]):=by
 obtain ⟨l,A⟩:=c7 (a :: b :: V :: N);obtain ⟨D,w⟩:=c7 (a1 :: b1 :: V1 :: t);have u:=G.nd;have P:=M.nd;have W:=G.W;rw [<- A] at g Y Q f u W;rw [<- w] at f P;have a3:D.length=l.length:=by rw [A,w];simp [M.len,G.len]
 have o:∀ j∈l,∃ i F,l[i]?=some j/\D[i]?=some F/\IJ l D j=F:=λj B=>by
  obtain ⟨i,C,L⟩:=aO B;have m:l[i]?=some j:=by rw [aA C,L]
  have n:=aA (aD:i<D.length);exact ⟨i,_,m,n,DC u m n⟩
 have ra:IJ l D a=a1:=DC u (i:=0) (by rw [A];rfl) (by rw [w];rfl);have rb:IJ l D b=b1:=DC u (i:=1) (by rw [A];rfl) (by rw [w];rfl);have rV:IJ l D V=V1:=DC u (i:=2) (by rw [A];rfl) (by rw [w];rfl);have rq:∀ i q q1,N[i]?=some q->t[i]?=some q1->IJ l D q=q1:=λi q q1 e m=>DC u (i:=i+3) (by rw [A];exact e) (by rw [w];exact m);have cI_ren:∀ (v:V2),(v.map cI).map (·.map (CE (IJ l D)))=v.map cI:=λv=>AX λc r y s=>by
  rw [aT] at r;obtain ⟨z,_,rfl⟩:=r;simp [cI] at s;subst s;rfl
 have cI_ok:∀ (v:V2),∀ c∈v.map cI,∀ y∈c,okc E.F y:=λv c r y s=>by
  rw [aT] at r;obtain ⟨z,_,rfl⟩:=r;simp [cI] at s;subst s;rfl
 refine ⟨IJ l D,⟨λj B=>?_,λi j C B L=>?_,λj B=>⟨(g j).2 (.inl B),?_⟩,λj B=>?_,λj k I=>?_⟩,?_,?_⟩
 .rcases (g j).1 B with h|h
  .exact dE (a2 j h) He
  .exact (W j h).2
 .by_cases hi2:i∈l<;>by_cases d:j∈l
  .obtain ⟨p,S,m,n,R⟩:=o i hi2;obtain ⟨p',F,f1,f2,f3⟩:=o j d;rw [R,f3] at L;subst L;obtain ⟨u1,u2⟩:=aQ.1 n;obtain ⟨v1,v2⟩:=aQ.1 f2;have:p=p':=(i6 P).1 (u2.trans v2.symm);subst this;rw [m] at f1;cases f1;rfl
  .obtain ⟨p,S,m,n,R⟩:=o i hi2;rw [R,AJ d] at L;subst L;have J:H.F S:=(((g S).1 B).resolve_right d);by_cases K:H.F i
   .exact ((f p i S m n).1 K).symm
   .exact absurd J ((f p i S m n).2 K)
  .obtain ⟨p,F,m,n,R⟩:=o j d;rw [R,AJ hi2] at L;subst L;have K:H.F i:=(((g i).1 C).resolve_right hi2);by_cases J:H.F j
   .exact (f p j i m n).1 J
   .exact absurd K ((f p j i m n).2 J)
  .rwa [AJ hi2,AJ d] at L
 .by_cases d:j∈l
  .obtain ⟨p,F,m,n,R⟩:=o j d;rw [R];exact (f p j F m n).1 B
  .exact AJ d
 .have h2:¬ H.F j/\j∉l:=⟨λh=>B ((g j).2 (.inl h)),λh=>B ((g j).2 (.inr h))⟩;rw [Q j h2.2];exact O j h2.1
 .by_cases d:j∈l
  .right
   have T:=d;rw [A,aW,aW,aW] at T;rcases T with rfl|rfl|rfl|hq
   .rw [G.ga] at I;cases I
    rw [ra];exact ⟨_,M.ga,rfl,rfl,rfl,(cI_ren _).symm,cI_ok _⟩
   .rw [G.gb] at I;cases I
    rw [rb];refine ⟨_,M.gb,rfl,rfl,rfl,(AX λc r y s=>?_).symm,λc r y s=>?_⟩
    .rw [aT] at r;obtain ⟨z,_,rfl⟩:=r;simp [Edge.c,dI] at s;rcases s with rfl|rfl|rfl<;>rfl
    .rw [aT] at r;obtain ⟨z,_,rfl⟩:=r;simp [Edge.c,dI] at s;rcases s with rfl|rfl|rfl<;>rfl
   .rw [G.gV] at I;cases I
    rw [rV];refine ⟨_,M.gV,rfl,rfl,rfl,?_,λc r y s=>?_⟩
    .apply gA;intro i;simp only [aN];by_cases C:i<x.k.length
     .have Z:=aA C;have m:=aA (show i<N.length by rw [G.len];exact C);have n:=aA (show i<t.length by rw [M.len];exact C);rw [uA m Z,uA n Z];simp [CE,rq i _ _ m n]
     .rw [b9 (by rw [kH M.len];omega),b9 (by rw [kH G.len];omega)];rfl
    .simp only [mH] at r;obtain ⟨i,C,rfl⟩:=aO r;rw [List.getElem_zipWith,bD] at s;subst s;show E.F _;exact (g _).2 (.inr (by rw [A];exact dX _ (dX _ (dX _ (aC _)))))
   .obtain ⟨i,C,rfl⟩:=aO hq;have m:=aA C;have U:i<x.k.length:=by rw [<- G.len];exact C
    have Z:=aA U;have n:=aA (show i<t.length by rw [M.len];exact U);rw [G.gq i _ _ m Z] at I;cases I
    rw [rq i _ _ m n];exact ⟨_,M.gq i _ _ n Z,rfl,rfl,rfl,(cI_ren _).symm,cI_ok _⟩
  .left
   have X:=Q j d;rw [I] at X;have hA:H.F j:=aY λhn=>by rw [O j hn] at X;cases X
   exact ⟨hA,X.symm,(Y j hA d).trans X.symm⟩
 .simp [Xv,CE,ra,rb,rV]
 .intro c r;simp only [aW,f7,or_false] at r;rcases r with rfl|rfl|rfl
  .exact (g _).2 (.inr (by rw [A];simp))
  .exact (g _).2 (.inr (by rw [A];simp))
  .exact (g _).2 (.inr (by rw [A];simp))
theorem xU {j:Nat}{k:Blk}:∀ (q:List (Nat × Blk)) (H:AHeap),(q.map (·.1)).Nodup->(j,k)∈q->(H.ac q).get j=some k
 | p :: q,H,hn,hm=>by
  rw [i5,iX] at hn;rw [aW] at hm;simp only [AHeap.ac];rcases hm with rfl|hm
  .rw [pW q _ _ hn.1];simp [AHeap.push]
  .exact xU q _ hn.2 hm
def VB (qs:List Nat)(vs:Yb):List (Nat × Blk):=List.zipWith (λq (v:V2)=>(q,(⟨3,1,v.map cI,false⟩:Blk))) qs vs
theorem IG {a:List Nat}{vs:Yb}(h:a.length=vs.length):(VB a vs).map (·.1)=a:=by
 unfold VB;rw [List.map_zipWith];apply fD (by simp [h]);intro i c b;simp
theorem PU {qs:List Nat}{vs:Yb}{i q:Nat}{v:V2}(h1:qs[i]?=some q)(h2:vs[i]?=some v):(q,(⟨3,1,v.map cI,false⟩:Blk))∈VB qs vs :=
 aL (i:=i) (by simp [VB,List.getElem?_zipWith,h1,h2])
def LJ (a b V:Nat)(qs:List Nat)(h:Host):List (Nat × Blk):=(a,⟨3,1,h.j.h.map cI,false⟩) :: (b,⟨145,3,h.j.i.map Edge.c,false⟩) :: (V,⟨26,1,mH qs h.k,false⟩) :: VB qs h.k
theorem RG {a b V:Nat}{c:List Nat}{h:Host}(d:c.length=h.k.length):(LJ a b V c h).map (·.1)=a :: b :: V :: c:=by simp [LJ,IG d]
theorem UZ {H:AHeap}{a b V:Nat}{d:List Nat}{h:Host}(l:d.length=h.k.length)(e:(a :: b :: V :: d).Nodup)(f:∀ j∈a :: b :: V :: d,j<H.next):HH (H.ac (LJ a b V d h)) 0 a b V d h:=by
 have c:=RG (a:=a) (b:=b) (V:=V) l;have g:((LJ a b V d h).map (·.1)).Nodup:=by rw [c];exact e
 have k:(H.ac (LJ a b V d h)).next=H.next:=rT _ _ λp n=>f p.1 (by rw [<- c];exact qB n);refine ⟨xU _ _ g (by simp [LJ]),xU _ _ g (by simp [LJ]),xU _ _ g (by simp [LJ]),l,λi q v r o=>xU _ _ g ?_,e,λq m=>⟨eL _,by rw [k];exact f q m⟩⟩;exact dX _ (dX _ (dX _ (PU r o)))
theorem LI {md:Nat->Bool}{ops:Array Oper}{F:List (Nat × Nat)}{B i:Nat}{n:List Oper}{s:List (Nat × List Nat)}{e:eF}{r:Option Tmp}{K:eF->AHeap->Prop}{H:AHeap}
  (h:Host) (P:h.j.h.length<=100000) (Q:h.j.i.length<=100000) (N:h.k.length<=100000) (O:∀ v∈h.k,v.length<=100000)
  (a b V:Nat) (k:List Nat) (I:k.length=h.k.length) (w:(a :: b :: V :: k).Nodup) (x:B<=H.next) (q:∀ j∈a :: b :: V :: k,j<B/\¬ H.F j) (G:Fk md r=true) (R:chk F i (a :: b :: V :: k) s)
  (S:∀ E,HH E 0 a b V k h->(∀ j,j∉a :: b :: V :: k->E.get j=H.get j)->(∀ j,E.F j↔H.F j\/j∈a :: b :: V :: k)->E.next=H.next ->
   lG prog md ops F B (i+1) n ((i,a :: b :: V :: k) :: s) (oV e r (.agg [.own a h.j.h.length,.own b h.j.i.length,.own V h.k.length])) E K) :
  r6 prog md ops F B i n s e r K 98 [h.d] H:=by
 have c:=RG (a:=a) (b:=b) (V:=V) I;unfold r6;refine Or.inr ⟨G,.agg [.own a h.j.h.length,.own b h.j.i.length,.own V h.k.length],[],[],LJ a b V k h,λp m=>absurd m (f7),λp m=>q p.1 (by rw [<- c];exact qB m),λt _ f=>?_,?_,?_⟩
 .have hf':∀ j∈a :: b :: V :: k,j<t.next/\¬ t.F j:=λj g=>by
   rw [<- c,aT] at g;obtain ⟨p,m,rfl⟩:=g;exact f p m
  refine ACalls.exact (E:=t.ac (LJ a b V k h)) (Lu h P Q N O t (λd D=>∃ z y A l,HH D t.next z y A l h/\(∀ j,j<t.next->D.get j=t.get j)/\d=.agg [.own z h.j.h.length,.own y h.j.i.length,.own A h.k.length]) (λz y A l D C L _=>⟨z,y,A,l,C,L,rfl⟩)) ?_;rintro o u d D ⟨z,y,A,l,C,L,rfl⟩;refine HH.exact (UZ I w λj g=>(hf' j g).1) C o u ?_ (λj=>?_) (λj g _=>L j (o j g)) (λj g=>pW _ _ _ (by rw [c];exact g)) (λi j M e T=>⟨λJ=>absurd J (hf' j (aL e)).2,λ_ J=>?_⟩)
  .rw [rT _ _ λp m=>(f p m).1];exact bC _
  .rw [uW,c]
  .have:=(C.W M (aL T)).1;have:=o M J;omega
 .rw [c];exact R
 .rw [c];refine S _ (UZ I w λj g=>dE (q j g).1 x) (λj g=>pW _ _ _ (by rw [c];exact g)) (λj=>by rw [uW,c];rfl) (rT _ _ λp m=>dE (q p.1 (by rw [<- c];exact qB m)).1 x)
theorem Q9 {α:Type}{f:α->Int}{m:Int}(h0:(0:Int)≠m)(h:∀ x,f x≠m):∀ l,iB f l≠m
 | []=>h0
 | x :: l=>by
  simp only [iB];split
  .exact h x
  .exact Q9 h0 h l
theorem Vp (n:Int)(l:List Test):l6 n l≠9:=by
 unfold l6;split
 .decide
 .split
  .decide
  .refine Q9 (by decide) (λx=>?_) l;unfold vR;split
   .decide
   .split<;>decide
structure PatOk (t:Types) (q:Pattern):Prop where
 vf:(dG t).2=0
 gg:graphF q.j=0
 ty:fZ t q.j=true
 vars:0<=q.vars/\q.vars<=12
 cf:q.l.length<=10/\q.G.length<=10
 gR:∀ s∈q.l,g5 t q s=0
 ef:∀ x∈q.G,vR q.vars x=0
theorem Jg {t:Types}{q:Pattern}(h:c9 t q=9\/c9 t q=0):PatOk t q:=by
 have i:=l7 h;have k:=L0 t;have l:graphF q.j≠9:=by
  unfold graphF;repeat' split
  all_goals decide
 have j:=Vp q.vars q.G;unfold c9 at h;by_cases g:(dG t).2=0
 .rw [if_neg aD] at h;by_cases f:graphF q.j=0
  .rw [if_neg aD] at h;by_cases b:fZ t q.j=false
   .rw [if_pos b] at h;omega
   .rw [if_neg b] at h;by_cases e:inF q.vars 0 12=false
    .rw [if_pos e] at h;omega
    .rw [if_neg e] at h;by_cases d:10<q.l.length\/10<q.G.length
     .rw [if_pos d] at h;omega
     .rw [if_neg d] at h;by_cases c:iB (g5 t q) q.l=0
      .rw [if_neg aD] at h;by_cases a:l6 q.vars q.G=0
       .refine ⟨g,f,by simpa using b,i,aD,rX c,rX ?_⟩;unfold l6 at a;split at a
        .cases a
        .split at a
         .cases a
         .exact a
       .rw [if_pos a] at h;omega
      .rw [if_pos c] at h;omega
  .rw [if_pos f] at h;omega
 .rw [if_pos g] at h;omega
theorem PA {n:Int}{x:Term}(h:termB n x=true)(hn:0<=n):rH x n.toNat:=by
 simp only [termB,aM,decide_eq_true_eq] at h;exact ⟨⟨aD,aD⟩,aD,aD⟩
theorem PatOk.G {t:Types}{q:Pattern}(hp:PatOk t q):∀ x∈q.G,KL x q.vars.toNat:=λx hx=>by
 have:=hp.ef x hx;unfold vR at this;split at this
 .cases this
 .rename_i h1;split at this
  .rename_i h2;rw [aM] at h2;exact ⟨aD,PA h2.1 hp.vars.1,PA h2.2 hp.vars.1⟩
  .cases this
theorem PatOk.l {t:Types}{q:Pattern}(hp:PatOk t q):∀ s∈q.l,(0<=s.node/\s.node<q.j.h.length)/\(0<=s.J/\s.J<(bL t (q.j.h[s.node.toNat]?.getD 0)).length)/\rH s.y q.vars.toNat:=λs hs=>by
 have:=hp.gR s hs;have hv:=hp.vars;unfold g5 at this;split at this
 .rename_i h1;simp only [aM,mT,decide_eq_true_eq,inF,Pattern.D] at h1;exact ⟨h1.1.1.1,⟨h1.1.1.2.1,of_decide_eq_true h1.1.1.2.2⟩,⟨aD,aD⟩,aD,aD⟩
 .cases this
structure MOk (t:Types) (p g:Graph) (m:Part):Prop where
 len:m.h.length=p.h.length
 ci:m.i.length=p.i.length
 b5:∀ (i:Nat) (hi:i<m.h.length) (hp:i<p.h.length),(0<=m.h[i]/\m.h[i]<g.h.length)/\vO t p.h[i] (g.h[m.h[i].toNat]?.getD 0)=true
 dx:∀ (i:Nat) (hi:i<m.i.length),0<=m.i[i]/\m.i[i]<g.i.length
theorem rW {t:Types}{p g:Graph}{m:Part}{inj:Bool}(h:matchE t p g m inj=0):MOk t p g m:=by
 obtain ⟨⟨f,e⟩,d,c⟩:=BC h;refine ⟨f,e,λi a b=>⟨d _ (aC a),?_⟩,λi a=>c _ (aC a)⟩;unfold matchE at h;rw [if_neg aD] at h;split at h
 .exact absurd h ic
 .rename_i h5;have:=eU _ _ (bY h5) i (eL _) aD;unfold mNE at this;rw [aA a,aA b,Option.getD_some,Option.getD_some] at this;split at this
  .cases this
  .split at this
   .assumption
   .cases this
theorem Rw {S:Srch}{ns:V2}:∀ (d:Nat) (l es:V2),es∈C1 S ns d l->es.length=l.length+d/\(∀ x∈l,0<=x/\x<S.g.i.length->True)/\((∀ x∈l,0<=x/\x<S.g.i.length)->∀ x∈es,0<=x/\x<S.g.i.length)
 | 0,l,es,h=>by
  simp only [C1,bD] at h;subst h;exact ⟨rfl,λ_ _ _=>trivial,λh=>h⟩
 | d+1,l,es,h=>by
  simp only [C1,bQ,d8,aV] at h;obtain ⟨k,⟨hk,_⟩,hr⟩:=h;obtain ⟨h1,_,h3⟩:=Rw d _ es hr;refine ⟨by simp at h1;omega,λ_ _ _=>trivial,λhl=>h3 λx hx=>?_⟩;rw [aZ,bD] at hx;rcases hx with hx|rfl
  .exact hl x hx
  .omega
theorem Ru {S:Srch}:∀ (d:Nat) (l:V2) (m:Part),m∈Be S d l->m.h.length=l.length+d/\∀ i,l.length<=i->i<l.length+d->∃ k:Nat,m.h[i]?=some (k:Int)/\k<S.g.h.length/\vO S.t (S.p.h[i]?.getD 0) (S.g.h[k]?.getD 0)=true
 | 0,l,m,h=>by
  simp only [Be,aT] at h;obtain ⟨es,_,rfl⟩:=h;exact ⟨rfl,λi h1 h2=>by omega⟩
 | d+1,l,m,h=>by
  have h':=h;simp only [Be,bQ,d8,aV] at h;obtain ⟨k,⟨hk,ho⟩,hr⟩:=h;obtain ⟨h1,h2⟩:=Ru d _ m hr;simp at h1 h2;refine ⟨aD,λi h3 h4=>?_⟩;by_cases hi:i=l.length
  .subst hi;obtain ⟨⟨r,hr2⟩,_⟩:=Bd d _ m hr;refine ⟨k,by rw [hr2];simp,hk,?_⟩;simp only [Ly,aM] at ho;exact ho.2.2
  .exact h2 i aD aD
theorem R9 {S:Srch}{m:Part}(h:m∈yU S):MOk S.t S.p S.g m:=by
 unfold yU at h;obtain ⟨f,e⟩:=Ru _ _ m h;obtain ⟨_,q⟩:=Bd _ _ m h;obtain ⟨d,_,o⟩:=Rw _ _ _ q;simp at f e d;refine ⟨f,d,λi a l=>?_,λi a=>o (by intro x j;cases j) _ (aC a)⟩;obtain ⟨k,c,r,b⟩:=e i aD;rw [aA a] at c;have n:m.h[i]=(k:Int):=Option.some.inj c;rw [aA l,Option.getD_some] at b;rw [n];exact ⟨aD,by simpa using b⟩
theorem p5 {t:Types}{h:Host}(ho:HostOk t h):∀ a∈h.j.h,0<=a/\a<t.h.length:=λa ha=>by
 obtain ⟨i,hi,rfl⟩:=aO ha;have:=ho.vl;exact ⟨((dY ho.gg).1 _ ha).1,(pJ (ho.nd i hi aD)).1⟩
theorem Zg {t:Types}{q:Pattern}{h:Host}{m:Part}(hp:PatOk t q)(ho:HostOk t h)(hm:MOk t q.j h.j m):SOk q h m where
 vars:=hp.vars
 node s hs:=by have:=hp.l s hs;have:=hm.len;omega
 b5 k hk:=by
  obtain ⟨i,hi,rfl⟩:=aO hk;have:=(hm.b5 i hi (by have:=hm.len;omega)).1;have:=ho.vl;omega
 J s hs:=by
  obtain ⟨h1,h2,_⟩:=hp.l s hs;have hl:=hm.len;have hi:s.node.toNat<m.h.length:=aD;have hq:s.node.toNat<q.j.h.length:=aD;obtain ⟨h3,h4⟩:=hm.b5 _ hi hq;have hvl:=ho.vl;have hk:m.h[s.node.toNat].toNat<h.j.h.length:=aD;have hkv:m.h[s.node.toNat].toNat<h.k.length:=aD;rw [aA hi,Option.getD_some,aA hkv,Option.getD_some];rw [aA hq,Option.getD_some] at h2;rw [aA hk,Option.getD_some] at h4;have ha:=(kF hp.gg hp.ty).1 _ (aC hq);have hb:=p5 ho _ (aC hk);rw [uK hp.vf ha.1 ha.2] at h2;have hrow:=(pJ (ho.nd _ hk hkv)).2.2.1;rw [uK hp.vf hb.1 hb.2] at hrow;unfold vO at h4;obtain ⟨r,hr⟩:=Nv (nI hp.vf) (h.j.h[m.h[s.node.toNat].toNat]).toNat aD (q.j.h[s.node.toNat]).toNat (by rw [Int.toNat_of_nonneg ha.1];exact h4);rw [hr,aI] at hrow;omega
 bO l hl v hv:=(ho.row l hl).2 v hv
 y s hs:=(hp.l s hs).2.2
 ef:=hp.G
/-! ### values -/
def NM (p:Pattern)(vs:V2):V2 × List Bool:=(vs++List.replicate (p.vars.toNat - vs.length) 0,List.replicate vs.length true++List.replicate (p.vars.toNat - vs.length) false)
theorem Hy (p:Pattern):NM p []=(List.replicate p.vars.toNat 0,List.replicate p.vars.toNat false):=by simp [NM]
theorem fB {p:Pattern}{h:Host}{m:Part}{vs:V2}(a:slotsV h m (NM p vs) p.l=none):eZ p h m vs=([],11):=by
 unfold eZ;unfold NM at a;rw [a]
theorem qH {p:Pattern}{h:Host}{m:Part}{vs:V2}{q:V2 × List Bool}(a:slotsV h m (NM p vs) p.l=some q):eZ p h m vs=if p.G.all (λx=>BT x q.1)=true then (q.1,0) else ([],16):=by
 unfold eZ;unfold NM at a;rw [a]
structure StOk (n:Nat) (st:V2 × List Bool):Prop where
 l1:st.1.length=n
 l2:st.2.length=n
 sm:∀ v∈st.1,-2000000<=v/\v<=2000000
theorem StOk.bq {n:Nat}{st:V2 × List Bool}(h:StOk n st):Sm st.1:=λv hv=>by have:=h.sm v hv;omega
theorem PF {p:Pattern}{vs:V2}(b:0<=p.vars)(c:vs.length<=p.vars.toNat)(a:∀ v∈vs,-2000000<=v/\v<=2000000):StOk p.vars.toNat (NM p vs):=by
 refine ⟨by simp [NM];omega,by simp [NM];omega,λv h=>?_⟩;simp only [NM,aZ,List.mem_replicate] at h;rcases h with h|h
 .exact a v h
 .omega
theorem AE {n:Nat}{h:Host}{m:Part}{b:V2 × List Bool}{s:Slot}(a:StOk n b)(f : -1000000<=haveV h m s/\haveV h m s<=1000000)(d:rH s.y n):StOk n (mF h m b s):=by
 unfold mF;split
 .refine ⟨by simp [a.l1],by simp [a.l2],λv c=>?_⟩;rcases oL c with e|rfl
  .exact a.sm v e
  .have:=d.2;omega
 .exact a
theorem SOk.cQ {p:Pattern}{h:Host}{m:Part}(d:SOk p h m){s:Slot}(e:s∈p.l) : -1000000<=haveV h m s/\haveV h m s<=1000000:=by
 have g:=d.node s e;have a:s.node.toNat<m.h.length:=aD;have i:=d.b5 _ (aC a);have b:(m.h[s.node.toNat]).toNat<h.k.length:=aD;have f:=d.J s e;unfold haveV;rw [aA a,Option.getD_some,aA b,Option.getD_some] at f ⊢;have c:s.J.toNat<(h.k[(m.h[s.node.toNat]).toNat]).length:=aD;rw [aA c];exact d.bO _ (aC b) _ (aC c)
theorem Ma {p:Pattern}{h:Host}{m:Part}(hO:SOk p h m):∀ (l:List Slot) (st q:V2 × List Bool),(∀ s∈l,s∈p.l)->StOk p.vars.toNat st->slotsV h m st l=some q->StOk p.vars.toNat q
 | [],st,q,_,hst,hq=>by simp only [slotsV,bI] at hq;exact hq ▸ hst
 | s :: l,st,q,hl,hst,hq=>by
  simp only [slotsV] at hq;split at hq
  .have hs:=hl s (gG ..);exact Ma hO l _ q (λx hx=>hl x (dX _ hx)) (AE hst (hO.cQ hs) (hO.y s hs)) hq
  .cases hq
theorem Cy {p:Pattern}{h:Host}{m:Part}(d:SOk p h m){vs:V2}(f:vs.length<=p.vars.toNat)(e:∀ v∈vs,-2000000<=v/\v<=2000000)(a:(eZ p h m vs).2=0) :
  (eZ p h m vs).1.length=p.vars.toNat/\∀ v∈(eZ p h m vs).1,-2000000<=v/\v<=2000000:=by
 cases b:slotsV h m (NM p vs) p.l with
 | none=>rw [fB b] at a;cases a
 | some q =>
  have c:=Ma d _ _ _ (λ_ h=>h) (PF d.vars.1 f e) b;rw [qH b] at a ⊢;split at a
  .rename_i h1;rw [if_pos h1];exact ⟨c.l1,c.sm⟩
  .cases a
theorem nY (q:Pattern)(h:Host)(a:V2)(l:List Part)(x:Part):tI q h a (l++[x])=tI q h a l++if (eZ q h x a).2=0 then [⟨x,(eZ q h x a).1⟩] else []:=by
 unfold tI;rw [List.filterMap_append];congr 1;simp only [List.filterMap_cons,List.filterMap_nil];split<;>simp_all
theorem lM (o:Option Bool):(Option.map cB o).getD [D.bool false]=cB (o.getD false):=by cases o<;>rfl
theorem DG (p:Pattern)(h:Host)(m:Part)(M:SOk p h m):Pua 168 [p.d,h.d,m.d] (.tup [dLI (eZ p h m []).1,dI (eZ p h m []).2]):=by
 have hv:=M.vars;have h0:=PF (vs:=[]) hv.1 aE aE;rw [Hy] at h0;refine Tz.pK ⟨λt=>t==11,λ_=>[]⟩ func168 rfl (λQ O=>?_);have Y:=xa5 @Pattern.d.eq_1 @Pattern.c.eq_1 @Host.d.eq_1 @Host.c.eq_1 @Part.d.eq_1 @Part.c.eq_1 @Term.c.eq_1;refine wp (h:=bA (λi e H=>∃ l:V2 × List Bool,(e 3=.adr p.c/\e 4=.adr h.c/\e 5=.adr m.c/\e 8=.own 0 p.vars.toNat/\e 9=.own 1 p.vars.toNat/\e 10=dI i)/\(H.get 0=some ⟨3,1,l.1.map cI,false⟩)/\(0<H.next)/\(H.get 1=some ⟨4,1,l.2.map cB,false⟩)/\(1<H.next)/\(i<=p.l.length)/\(StOk p.vars.toNat l)/\(slotsV h m (NM p []) (p.l.take i)=some l)) (λi=>p.l.length - i) 0 ⟨((List.replicate p.vars.toNat 0,List.replicate p.vars.toNat false)),wg,(by simp [go_sem,cI]),wn,(by simp [go_sem,cB]),wn,wi,(by exact h0),(by rw [Hy];rfl)⟩ λI0 B i e H a2=>?_);obtain ⟨l,E0,X,S,V,P,hi,q,G⟩:=a2;have Y:=xa4 Y E0 X (bS S) V (bS P);refine wv (h:=?_);repeat first|intro _|refine ⟨fK,?_⟩
 refine wq (λC=>?_) λC=>?_
 .obtain ⟨x,T⟩:=c7 (p.l[i]);have z:x∈p.l:=T ▸ aC C;have hn:=M.node x z;have r:x.node.toNat<m.h.length:=aD;have Z:=M.b5 _ (aC r);have v:(m.h[x.node.toNat]).toNat<h.k.length:=aD;have ha:=M.J x z;rw [aA r,Option.getD_some,aA v,Option.getD_some] at ha;have A:x.J.toNat<(h.k[(m.h[x.node.toNat]).toNat]).length:=aD;have hV:haveV h m x=h.k[(m.h[x.node.toNat]).toNat][x.J.toNat]:=by unfold haveV;rw [aA r,Option.getD_some,aA v,Option.getD_some,aA A];rfl
  have hb:=M.cQ z;have K:=M.y x z;have u:=q.l1;have I:=q.l2;have a5:=K.1;have a6:=K.2;have n:=vS C G;rw [<- T] at n;obtain ⟨o,f⟩:∃ y,y=mF h m l x:=⟨_,rfl⟩;have j:StOk p.vars.toNat o:=f ▸ AE q hb K;rw [<- f] at n;have g:¬ 0<=x.y.O->o=l:=λhn=>by rw [f];unfold mF mB;rw [if_neg (iw hn)]
  have E:0<=x.y.O->x.y.O.toNat<l.2.length:=λhn=>by omega
  obtain ⟨kb,U⟩:=c7 (l.2[x.y.O.toNat]?.getD false);have J:0<=x.y.O\/(¬ 0<=x.y.O/\l.2[x.y.O.toNat]?=none)\/(¬ 0<=x.y.O/\l.2[x.y.O.toNat]?=some kb):=by
   by_cases F:0<=x.y.O
   .exact .inl F
   .right
    cases ho:l.2[x.y.O.toNat]? with
    | none=>exact .inl ⟨F,rfl⟩
    | some b=>rw [ho] at U;exact .inr ⟨F,by rw [U];rfl⟩
  rcases J with hc|hc|hc
  .have Y:=xa3 Y C (aA C) (Eq.symm T) (xb0 (aA r) (aA v) (aA A) (Eq.symm hV) @Slot.c.eq_1 @cL.eq_1 u I @lM @cB.eq_1 hc ((aA (E hc))));refine iY (λh9=>?_) λh9=>?_
   .have hF:mB l x=true:=by simp only [mB,aM,decide_eq_true_eq,cZ];exact ⟨hc,by simpa [aA (E hc)] using h9⟩
    unfold mF at f;rw [if_pos hF] at f;have a0:x.y.O.toNat<l.1.length:=aD;have e1:o.1.map cI=(l.1.map cI).set x.y.O.toNat (cI (haveV h m x - x.y.add)):=by rw [f,cW]
    have e2:o.2.map cB=(l.2.map cB).set x.y.O.toNat (cB true):=by rw [f,cW]
    have a4:D.R ((l.1.map cI).set x.y.O.toNat [D.int .i64 (haveV h m x - x.y.add)])=true:=by have:=sH o.1;rw [e1] at this;exact this
    have Y:=xa5 Y e1 e2 @dLI.eq_1 @cI.eq_1 (aA a0) a4;refine wp (h:=eK (sN x.y o.1 (by rw [j.l1];exact K) j.bq) wr wl rfl ?_);refine iY (λa=>?_) λa=>?_
    .have hR:=fB (n.2 (by first|simpa using a|simpa [g hc.1] using a|simpa [f] using a));exact wv (h:=O _ _ (iq hR))
    .have hstep:=n.1 (by first|simpa using a|simpa [g hc.1] using a|simpa [f] using a);exact wp (h:=wx B (i+1) ⟨o,wg,cl,wn,cl,wn,wj,(by exact j),(by exact hstep)⟩)
   .have hF:¬ mB l x=true:=by simp only [mB,aM,decide_eq_true_eq,cZ];rintro ⟨_,Z⟩;simp [aA (E hc)] at Z;simp [Z] at h9
    unfold mF at f;rw [if_neg hF] at f;have Y:=wa Y f;refine wv (h:=eK (sN x.y o.1 (by rw [j.l1];exact K) j.bq) wr wl rfl ?_);refine dR (λa=>?_) λa=>?_
    .have hR:=fB (n.2 (by first|simpa using a|simpa [g hc.1] using a|simpa [f] using a));exact wv (h:=O _ _ (iq hR))
    .have hstep:=n.1 (by first|simpa using a|simpa [g hc.1] using a|simpa [f] using a);exact wp (h:=wx B (i+1) ⟨o,wg,cl,wn,cl,wn,wj,(by exact j),(by exact hstep)⟩)
  .have Y:=xa4 Y C (aA C) (Eq.symm T) (aA r) (xb0 (aA v) (aA A) (Eq.symm hV) @Slot.c.eq_1 @cL.eq_1 u I @lM @cB.eq_1 hc.1 hc.2 (g hc.1));refine wp (h:=eK (sN x.y o.1 (by rw [j.l1];exact K) j.bq) wr wl rfl ?_);refine iY (λa=>?_) λa=>?_
   .have hR:=fB (n.2 (by first|simpa using a|simpa [g hc.1] using a|simpa [f] using a));exact wv (h:=O _ _ (iq hR))
   .have hstep:=n.1 (by first|simpa using a|simpa [g hc.1] using a|simpa [f] using a);exact wp (h:=wx B (i+1) ⟨o,wg,cl,wn,cl,wn,wj,(by exact j),(by exact hstep)⟩)
  .have Y:=xa4 Y C (aA C) (Eq.symm T) (aA r) (xb0 (aA v) (aA A) (Eq.symm hV) @Slot.c.eq_1 @cL.eq_1 u I @lM @cB.eq_1 hc.1 hc.2 (g hc.1));refine wp (h:=eK (sN x.y o.1 (by rw [j.l1];exact K) j.bq) wr wl rfl ?_);refine iY (λa=>?_) λa=>?_
   .have hR:=fB (n.2 (by first|simpa using a|simpa [g hc.1] using a|simpa [f] using a));exact wv (h:=O _ _ (iq hR))
   .have hstep:=n.1 (by first|simpa using a|simpa [g hc.1] using a|simpa [f] using a);exact wp (h:=wx B (i+1) ⟨o,wg,cl,wn,cl,wn,wj,(by exact j),(by exact hstep)⟩)
 .rw [aG aD] at G;have L:=qH G;have u:=q.l1;have Y:=wa Y u;refine wv (h:=bA (λk e H=>(e 3=.adr p.c/\e 4=.adr h.c/\e 5=.adr m.c/\e 8=.own 0 p.vars.toNat/\e 14=dI k)/\(H.get 0=some ⟨3,1,l.1.map cI,false⟩)/\(0<H.next)/\(k<=p.G.length)/\((p.G.take k).all (λx=>BT x l.1)=true)) (λk=>p.G.length - k) 0 ⟨wg,wn,wn,wi,(by rfl)⟩ λI2 a3 k e H a1=>?_);obtain ⟨E2,W,R,Z,w⟩:=a1;have Y:=xa2 Y E2 W (bS R);refine wv (h:=?_);repeat first|intro _|refine ⟨fK,?_⟩
  refine wq (λs=>?_) λs=>?_
  .have Y:=xa2 Y s (aA s) @Test.c.eq_1;refine wp (h:=eK (QB p.G[k] l.1 (by rw [q.l1];exact M.ef _ (aC s)) q.bq) wr wl rfl ?_);refine iY (λN=>?_) λN=>?_
   .have hR:eZ p h m []=([],16):=by
     rw [L,if_neg];intro ha;rw [cF] at ha;have:=ha _ (aC s);simp [this] at N
    exact wv (h:=O _ _ (iq hR))
   .exact wp (h:=wx a3 (k+1) ⟨wg,wn,wn,wj,(by rw [List.take_succ_eq_append_getElem s,sK,w];simp;simpa using N)⟩)
  .rw [aG aD] at w;rw [if_pos w] at L;exact wv (h:=O _ _ (by simp [go_sem,Y,L,dLI]))
def sW (t:Types)(p:Pattern)(h:Host):Int:=if c9 t p≠0 then c9 t p else fG t h
theorem Gj (t:Types)(b:t.ok)(p:Pattern)(h:Host):Pua 166 [t.d,p.d,h.d] (dI (sW t p h)):=by
 refine Tz.p0 func166 rfl λQ e _=>?_;have Y:=wa @Host.d.eq_1 @Host.c.eq_1;refine wv (h:=aB (vX t b p) wl ?_);refine dR (λa=>?_) λa=>?_
 .exact wv (h:=e _ _ (by simp [go_sem,sW,a]))
 .refine wv (h:=aB (jO t b h) wl ?_);exact wv (h:=e _ _ (by simp [go_sem,sW,a,fG]))
theorem Qf (t:Types)(i:t.ok)(p:Pattern)(h:Host)(m:Part):Pua 170 [t.d,p.d,h.d,m.d] (.tup [dLI (eG t p h m).1,dI (eG t p h m).2]):=by
 refine Tz.p0 func170 rfl λQ g _=>?_;have Y:=xa2 @Pattern.d.eq_1 @Pattern.c.eq_1 @Host.d.eq_1 @Host.c.eq_1;refine wv (h:=aB (Gj t i p h) wl ?_);refine dR (λa=>?_) λa=>?_
 .have e:eG t p h m=([],sW t p h):=by
   unfold eG sW;unfold sW at a;by_cases b:c9 t p=0
   .rw [if_neg aD] at a ⊢;rw [if_pos a,if_neg aD]
   .rw [if_pos b,if_pos b]
  exact wv (h:=g _ _ (iq e))
 .have hp0:c9 t p=0:=by
   unfold sW at a;refine aY λb=>?_;rw [if_pos b] at a;exact b a
  have f:fG t h=0:=by unfold sW at a;rw [if_neg aD] at a;exact a
  refine wv (h:=aB (AN t i p.j h.j m false) wl ?_);refine dR (λj=>?_) λj=>?_
  .have e:eG t p h m=([],checkE t p.j h.j m false):=by unfold eG;rw [if_neg aD,if_neg aD,if_pos j]
   exact wv (h:=g _ _ (iq e))
  .have h5':checkE t p.j h.j m false=0:=aD;have e:eG t p h m=eZ p h m []:=by unfold eG;rw [if_neg aD,if_neg aD,if_neg aD]
   refine wv (h:=aB (DG p h m (Zg (Jg (.inr hp0)) (lK f) (rW (oS h5').2))) wl ?_);exact wv (h:=g _ _ (iq e))
theorem UW (l:List Part):(En l).1.length<=5000:=by
 unfold En;split
 .simp
 .simp only;omega
theorem KF (t:Types)(p g:Graph)(inj:Bool):(kC t p g inj).1.length<=5000:=by
 unfold kC;split
 .simp
 .exact UW _
theorem UO (t:Types)(p g:Graph)(q:Part)(inj:Bool):(pA t p g q inj).1.length<=5000:=by
 unfold pA;split
 .simp
 .split
  .simp
  .split
   .simp
   .split
    .simp
    .exact UW _
theorem Nx {t:Types}{p g:Graph}{inj:Bool}{m:Part}(h:m∈(kC t p g inj).1):MOk t p g m:=by
 unfold kC at h;split at h
 .cases h
 .unfold En at h;split at h
  .cases h
  .exact R9 (S:=⟨t,p,g,_,_,inj⟩) (dD h)
theorem Ls (t:Types)(E:t.ok)(p:Pattern)(h:Host)(inj:Bool):Pua 91 [t.d,p.d,h.d,.bool inj] (.tup [.list ((eX t p h inj).1.map Mat.c),dI (eX t p h inj).2]):=by
 refine Tz.pK ⟨λt=>t==13,λ_=>[]⟩ func91 rfl (λQ C=>?_);have Y:=xa2 @Pattern.d.eq_1 @Pattern.c.eq_1 @Host.d.eq_1 @Host.c.eq_1;refine wv (h:=aB (Gj t E p h) wl ?_);refine dR (λb=>?_) λb=>?_
 .have hS:eX t p h inj=([],sW t p h):=by
   unfold eX sW;unfold sW at b;by_cases q:c9 t p=0
   .rw [if_neg aD] at b ⊢;rw [if_pos b,if_neg aD]
   .rw [if_pos q,if_pos q]
  exact wv (h:=C _ _ (iq hS))
 .have hp0:c9 t p=0:=by
   unfold sW at b;refine aY λq=>?_;rw [if_pos q] at b;exact q b
  have B:fG t h=0:=by unfold sW at b;rw [if_neg aD] at b;exact b
  have k:∀ x∈(kC t p.j h.j inj).1,MOk t p.j h.j x:=λx I=>Nx I;refine wv (h:=aB (VL t E p.j h.j inj) wl ?_);refine dR (λG=>?_) λG=>?_
  .have hS:eX t p h inj=([],(kC t p.j h.j inj).2):=by unfold eX;rw [if_neg aD,if_neg aD,if_pos G]
   exact wv (h:=C _ _ (iq hS))
  .have hS:eX t p h inj=(tI p h [] (kC t p.j h.j inj).1,0):=by unfold eX;rw [if_neg aD,if_neg aD,if_neg aD]
   obtain ⟨L,F⟩:=c7 ((kC t p.j h.j inj).1);have l:=KF t p.j h.j inj;rw [<- F] at hS k l;have D:=k;have Y:=wa Y (Eq.symm F);refine wv (h:=bA (λi e H=>∃ j:List Mat,(e 4=.adr t.c/\e 5=.adr p.c/\e 6=.adr h.c/\e 3=.bool inj/\e 11=.list (L.map Part.c)/\e 13=.own 0 j.length/\e 14=dI i)/\(H.get 0=some ⟨55,3,j.map Mat.c,false⟩)/\(0<H.next)/\(i<=L.length)/\(j=tI p h [] (L.take i))/\(j.length<=i)/\(L.length<=5000)) (λi=>L.length - i) 0 ⟨([]),wg,wn,wn,wi,(by rfl),(by simp),(by exact l)⟩ λN s i e H A=>?_);obtain ⟨j,K,u,o,M,g,J,r⟩:=A;have Y:=xa2 Y K u (bS o);refine iY (λn=>?_) λn=>?_
   .obtain ⟨v,w⟩:=c7 (eZ p h L[i] []);obtain ⟨f,a⟩:∃ y,y=j++if v.2=0 then [(⟨L[i],v.1⟩:Mat)] else []:=⟨_,rfl⟩
    have Y:=xa2 Y n (aA n) @Part.c.eq_1;refine wp (h:=aH ((by have z:=DG p h L[i] (Zg (Jg (.inr hp0)) (lK B) (D _ (aC n)));rw [<- w] at z;unfold Pattern.d Pattern.c Host.d Host.c Part.d Part.c dLI dI at z;exact z)) wl ?_);refine iY (λm=>?_) λm=>?_
    .have hm3:f=j++[⟨L[i],v.1⟩]:=by rw [a,if_pos (bY m)]
     have Y:=xa1 Y hm3 @Mat.c.eq_1;exact wp (h:=wx s (i+1) ⟨f,wg,wn,wn,wj,(by rw [List.take_succ_eq_append_getElem n,nY,<- g,<- w];exact a),(by rw [a];split<;>simp<;>omega),(by exact r)⟩)
    .have hm3:f=j:=by rw [a,if_neg (bY m),dU]
     have Y:=wa Y hm3;exact wp (h:=wx s (i+1) ⟨f,wg,wn,wn,wj,(by rw [List.take_succ_eq_append_getElem n,nY,<- g,<- w];exact a),(by rw [a];split<;>simp<;>omega),(by exact r)⟩)
   .rw [aG aD] at g;exact wv (h:=C _ _ (by simp [go_sem,Y,hS,<- g]))
end Go.Abs
end

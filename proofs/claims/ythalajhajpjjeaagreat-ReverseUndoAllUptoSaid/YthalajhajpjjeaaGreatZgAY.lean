/- Layer 27: the undoing rule; where elements come from. · Laye -/
import Derived.Test.YthalajhajpjjeaaGreatZgAF
import Derived.Test.YthalajhajpjjeaaGreatZgAA
import Derived.Test.YthalajhajpjjeaaGreatZgAX
import Derived.Test.YthalajhajpjjeaaGreatZgAW
set_option linter.unusedVariables false
set_option linter.unusedSimpArgs false
section
set_option maxRecDepth 100000
set_option maxHeartbeats 4000000
open Go Go.Proofs
namespace Go.Abs
structure UndOk (t:Types) (s:Stp26):Prop where
 sl:SlotsOk t s
 c1:s.comatch.nodes.length=s.rule.right.graph.nodes.length
 c2:∀ x∈s.comatch.nodes,0<=x/\x<s.after.graph.nodes.length
 c3:s.comatch.edges.length<=1000
 m1:s.mat.m.nodes.length=s.rule.left.graph.nodes.length
 m2:∀ x∈s.mat.m.nodes,0<=x/\x<s.before.graph.nodes.length
 sz:(s.rule.right.graph.nodes.length<=1000/\s.rule.right.graph.edges.length<=1000)/\s.rule.left.graph.nodes.length<=1000/\s.rule.left.graph.edges.length<=1000
 k:s.rule.into.nodes.length=s.rule.keep.nodes.length/\s.rule.into.edges.length=s.rule.keep.edges.length
 il:s.rule.into.nodes.length<=1000000/\s.rule.into.edges.length<=1000000
 inn:s.rule.into.nodes.Nodup/\s.rule.into.edges.Nodup
 ir:(∀ x∈s.rule.into.nodes,0<=x/\x<s.rule.right.graph.nodes.length)/\∀ x∈s.rule.into.edges,0<=x/\x<s.rule.right.graph.edges.length
section
variable {t:Types} {r:Rule} {h:Host} {m:Mat}
theorem StepIn.c_rangeN (S:StepIn t r h m):∀ x∈(eY r h m).nodes,0<=x/\x<(cT t r h m).graph.nodes.length:=λx hx=>by
 obtain ⟨i,hi,rfl⟩:=AL hx
 rw [S.coN,iU] at hi
 rw [S.sizeN,S.coN]
 exact S.srtN.c_in (j:=(i:Int)) aD
theorem StepIn.c_rangeE (S:StepIn t r h m):∀ x∈(eY r h m).edges,0<=x/\x<(cT t r h m).graph.edges.length:=λx hx=>by
 obtain ⟨i,hi,rfl⟩:=AL hx
 rw [S.coE,iU] at hi
 rw [S.sizeE,S.coE]
 exact S.srtE.c_in (j:=(i:Int)) aD
theorem StepOk.slotsOk (K:StepOk t r h m):SlotsOk t (bG t r h m):=by
 have u:m.m.nodes.length=r.left.graph.nodes.length:=K.S.hm.len
 have v:=bS K.S.hR.pl.gg
 have s:=K.S.ho.vl
 have a:∀ i:Nat,i<m.m.nodes.length->0<=iA m.m.nodes i/\iA m.m.nodes i<h.graph.nodes.length:=λi b=>K.S.imN _ (mN aD aD)
 have c:∀ i:Nat,i<m.m.nodes.length->(sG (bG t r h m) i).length=(bM t (gN h.graph (iA m.m.nodes i))).length:=λi b=>K.S.ho.rowlen (a i b).1 (a i b).2
 refine ⟨by show m.m.nodes.length<=1000;omega,λi b=>⟨⟨(a i b).1,by have:=(a i b).2;show iA m.m.nodes i<h.values.length;omega,(a i b).2⟩,c i b,by rw [c i b];exact qB K.S.ho.vf _⟩,λi b j=>?_⟩
 have o:=a i b
 have k:=K.S.srtN.kept_in ((mem_iff _ _).1 j)
 obtain ⟨p,e,q,_⟩:=K.S.srtN.t_in k
 have f:=K.S.sizeN
 have l:=K.S.vlen
 have g:=K.rows.1
 have d:=K.remN (i:=(iA m.m.nodes i).toNat) aD (by rw [K.S.trN,show (((iA m.m.nodes i).toNat:Nat):Int)=iA m.m.nodes i by omega,e];omega)
 rw [show (((iA m.m.nodes i).toNat:Nat):Int)=iA m.m.nodes i by omega] at d
 have n:(cT t r h m).graph.nodes.length=(bZ t r h m).graph.nodes.length:=rfl
 refine ⟨?_,?_,?_,?_⟩
 .show iA m.m.nodes i<(cO r h m).nodes.length
  rw [K.S.trN,gS];exact o.2
 .show 0<=iA (cO r h m).nodes (iA m.m.nodes i)
  rw [K.S.trN,e];omega
 .show iA (cO r h m).nodes (iA m.m.nodes i)<(cT t r h m).values.length
  rw [K.S.trN,e];omega
 .show (h.values[(iA m.m.nodes i).toNat]?.getD []).length<=((cT t r h m).values[(iA (cO r h m).nodes (iA m.m.nodes i)).toNat]?.getD []).length
  rw [d.v2];exact bC _
theorem StepOk.undOk (K:StepOk t r h m)(hr:r.ok):UndOk t (bG t r h m) where
 sl:=K.slotsOk
 c1:=by show (eY r h m).nodes.length=_;rw [K.S.coN,iU];rfl
 c2:=K.S.c_rangeN
 c3:=by
  have:=bS K.S.hR.gr
  show (eY r h m).edges.length<=1000
  rw [K.S.coE,iU];omega
 m1:=K.S.hm.len
 m2:=K.S.imN
 sz:=by
  have h1:=bS K.S.hR.gr
  have h2:=bS K.S.hR.pl.gg
  exact ⟨⟨by show r.right.graph.nodes.length<=_;omega,by show r.right.graph.edges.length<=_;omega⟩,by show r.left.graph.nodes.length<=_;omega,by show r.left.graph.edges.length<=_;omega⟩
 k:=⟨K.S.hR.keep.1.1.symm,K.S.hR.keep.1.2.symm⟩
 il:=⟨hr.i1,hr.i2⟩
 inn:=K.S.intoN
 ir:=⟨K.S.hR.keep.2.2.2.1,K.S.hR.keep.2.2.2.2⟩
end
def pP (t:Types)(s:Stp26):Int:=if 10<(kP t s s.mat.m.nodes.length).length then 3 else 0
def tB (t:Types)(s:Stp26):Rule:=if 10<(kP t s s.mat.m.nodes.length).length then jN else d8 t s
theorem IT (l:List Slot):eQ (l.map Slot.c)=l.map Slot.c:=lI λc hc=>by
 rw [bB] at hc;obtain ⟨x,_,rfl⟩:=hc;rfl
theorem HK (t:Types)(A:t.ok)(s:Stp26)(z:UndOk t s):Pure Tryz.prog 89 [t.d,.agg s.c] (.tup [(tB t s).d,dI (pP t s)]):=by
 obtain ⟨f,k,j,C,i,g,⟨⟨I,H⟩,G,F⟩,⟨w,v⟩,⟨M,K⟩,y,J⟩:=z
 have l:=LT t A s f
 obtain ⟨L,n⟩:=cW (kP t s s.mat.m.nodes.length)
 rw [<- n] at l
 have O:=E9 s.rule.into.nodes s.rule.right.graph.nodes.length
 have N:=E9 s.rule.into.edges s.rule.right.graph.edges.length
 have u:=DP s.rule.right.graph s.after.graph s.comatch.nodes k aD aD j
 have q:=DP s.rule.left.graph s.before.graph s.mat.m.nodes i aD aD g
 obtain ⟨E,b⟩:∃ zs,zs=s.comatch.nodes.map (gN s.after.graph):=⟨_,rfl⟩
 obtain ⟨D,a⟩:∃ zs,zs=s.mat.m.nodes.map (gN s.before.graph):=⟨_,rfl⟩
 rw [<- b] at u
 rw [<- a] at q
 simp only [Stp26.c,Rule.c,Mat.c,Host.c,cX,cZ] at l
 refine uF (by first|rfl|(simp [go_sem];done)) (λQ p=>(aJ (cfg:=⟨λt=>t==4||t==6||t==7||t==8||t==9,λr=>match r with|2=>[(0,6),(1,6),(2,6),(3,6),(4,6),(5,6),(0,7),(1,7),(2,7),(3,7),(4,7),(5,7),(6,7),(3,8),(4,8),(5,8)]|_=>[]⟩) Tz.mixed Tryz.func89 rfl rfl (aF rfl) (by kernel_rfl) ?_))
 have Y:=wa @Stp26.c.eq_1 (wa @Rule.c.eq_1 (wa @Mat.c.eq_1 @Host.c.eq_1))
 refine pM (h:=aB (u) wl ?_)
 refine pM (h:=aB (q) wl ?_)
 refine jM (h:=aI (BQ s.rule.right.graph.nodes.length s.rule.into.nodes aD) wl ?_)
 refine jM (h:=aI (BQ s.rule.right.graph.edges.length s.rule.into.edges aD) wl ?_)
 refine jM (h:=aI (BP (fW s.rule.into.nodes s.rule.right.graph.nodes.length) s.rule.into.nodes s.rule.keep.nodes (λx e=>(tU.1 e).2) w aD) wl ?_)
 refine jM (h:=aI (BP (fW s.rule.into.edges s.rule.right.graph.edges.length) s.rule.into.edges s.rule.keep.edges (λx e=>(tU.1 e).2) v aD) wl ?_)
 refine jM (h:=aB (l) wl ?_)
 refine jM (h:=aB (lG s.comatch.nodes) wl ?_)
 refine jM (h:=aH (λB=>lG s.comatch.edges) (λB=>wl) ?_)
 refine jM (h:=wq (λo=>?_) λo=>?_)
 .refine pM (h:=?_)
  exact p _ _ (by simp [go_sem,tB,pP,<- n,(aD:10<L.length),jN,nZ,Rule.d,Rule.c,Cond.kind,Cond.kids,Cond.map,Cond.pattern])
 .refine pM (h:=?_)
  exact p _ _ (by simp [go_sem,Y,tB,pP,<- n,(aD:¬ 10<L.length),d8,Lr,RN,QY,l4,<- b,<- a,Rule.d,Rule.c,Cond.kind,Cond.kids,Cond.map,Cond.pattern,eH,yS,IT])
theorem wY (t:Types)(y:t.ok)(s:Stp26)(x:UndOk t s):Pure Tryz.prog 102 [t.d,.agg s.c] (.tup [(tB t s).d,dI (pP t s)]):=by
 obtain ⟨f,C,i,B,z,g,⟨⟨J,I⟩,H,G⟩,⟨u,q⟩,⟨w,v⟩,a,l⟩:=x
 have j:=HJ t y s f
 obtain ⟨L,k⟩:=cW (kP t s s.mat.m.nodes.length)
 rw [<- k] at j
 have p:=Az s.rule.right.graph s.after.graph s.comatch.nodes aD aD i
 have o:=Az s.rule.left.graph s.before.graph s.mat.m.nodes aD aD g
 obtain ⟨F,e⟩:∃ zs,zs=s.comatch.nodes.map (gN s.after.graph):=⟨_,rfl⟩
 obtain ⟨E,b⟩:∃ zs,zs=s.mat.m.nodes.map (gN s.before.graph):=⟨_,rfl⟩
 rw [<- e] at p
 rw [<- b] at o
 simp only [Stp26.c,Rule.c,Mat.c,Host.c,cX,cZ] at j
 refine uF (by first|rfl|(simp [go_sem];done)) (λQ n=>(aJ (cfg:=⟨λt=>t==4||t==6||t==7,λr=>match r with|2=>[(0,40),(1,40),(2,40),(3,40),(4,40),(5,40),(6,40),(7,40),(8,40),(9,40),(10,40),(11,40),(13,40),(14,40),(15,40),(16,40),(17,40),(18,40),(19,40),(20,40),(21,40),(22,40),(23,40),(24,40),(25,40),(26,40),(28,40),(29,40),(30,40),(31,40),(33,40),(34,40),(35,40),(36,40)]|_=>[]⟩) Tz.mixed Tryz.func102 rfl rfl (aF rfl) (by kernel_rfl) ?_))
 have Y:=wa @Stp26.c.eq_1 (wa @Rule.c.eq_1 (wa @Mat.c.eq_1 @Host.c.eq_1))
 refine jM (h:=aI (p) wl ?_)
 refine jM (h:=aI (o) wl ?_)
 refine jM (h:=aI (j) wl ?_)
 refine jM (h:=aI (u0 s.comatch.nodes aD) wl ?_)
 refine jM (h:=dL (λA=>u0 s.comatch.edges aD) (λA=>wl) ?_)
 refine jM (h:=aB (AA s.rule.keep.nodes s.rule.into.nodes s.rule.right.graph.nodes.length a.1 l.1 u w) wl ?_)
 refine jM (h:=aB (AA s.rule.keep.edges s.rule.into.edges s.rule.right.graph.edges.length a.2 l.2 q v) wl ?_)
 refine jM (h:=wq (λD=>?_) λD=>?_)
 .refine pM (h:=?_)
  exact n _ _ (by simp [go_sem,tB,pP,<- k,(aD:10<L.length),jN,nZ,Rule.d,Rule.c,Cond.kind,Cond.kids,Cond.map,Cond.pattern])
 .refine pM (h:=?_)
  exact n _ _ (by simp [go_sem,Y,tB,pP,<- k,(aD:¬ 10<L.length),d8,Lr,RN,QY,l4,<- e,<- b,Rule.d,Rule.c,Cond.kind,Cond.kids,Cond.map,Cond.pattern,eH,yS,IT])
theorem Q0 (a b:List Int)(k:Nat):Ks a b (k+1)=Ks a b k++if 0<=iA a k/\0<=iA b (iA a k) then [(iA b (iA a k),(k:Int))] else []:=by simp [Ks,c7]
theorem QZ (b a:List Int)(k:Nat):OD b a (k+1)=OD b a k++[(iA b k,iA a k)]:=by simp [OD,c7]
theorem Ru (c b a:List Int)(k:Nat):Ig c b a (k+1)=Ig c b a k++if 0<=iA b k then [(iA b k,idx a (iA c k))] else []:=by simp [Ig,c7]
theorem Rt (b a keep:List Int)(k:Nat):KW b a keep (k+1)=KW b a keep k++if mem keep k=true then [] else [(iA b k,iA a k)]:=by simp [KW,c7]
theorem AC (a b d m:List Int)(n:Nat)(hn:n<=1000000)(a1:∀ x∈a,x<b.length)(a2:∀ x∈b,x<n)(a3:∀ x∈d,0<=x/\x<n)(a4:d.length<=m.length) :
  Pure Tryz.prog 187 [dLI a,dLI b,dLI d,dLI m,dI n] (dLI (wJ a b d m n)):=by
 refine Tz.pK ⟨λt=>t==11,λ_=>[]⟩ Tryz.func187 rfl (λQ hQ=>?_)
 try simp [go_sem,seval]
 repeat first|intro _|refine ⟨eL,?_⟩
 obtain ⟨I0,y⟩:∃ I0:Nat->dJ->AHeap->Prop,∀ (i:Nat) (e:dJ) (H:AHeap),I0 i e H↔(∃ v:List Int,(e 0=dLI a)/\(e 1=dLI b)/\(e 2=dLI d)/\(e 3=dLI m)/\(e 11=.own 0 n)/\(e 12=dI i)/\(H.get 0=some ⟨3,1,v.map cI,false⟩)/\(0<H.next)/\(i<=a.length)/\(v=lF (Ks a b i) (List.replicate n 0))/\(v.length=n)):=⟨λi e H=>_,λ_ _ _=>Iff.rfl⟩
 refine oD I0 (λi=>a.length - i) (0) ((y _ _ _).2 ⟨((List.replicate n 0)),?_,?_,?_,?_,?_,?_,?_,?_,(by first|assumption|omega|(simp [go_sem];done)|(simp_all;done)),(by rfl),(by simp)⟩) ?_
 iterate 8 (first|omega|(simp [go_sem,seval]<;>omega))
 intro i e H a8
 obtain ⟨v,R,O,M,K,E,C,W,T,hi,X,l⟩:=(y _ _ _).1 a8
 have Z:=b8 T
 have r:=And.intro R (And.intro O (And.intro M (And.intro K (And.intro E (And.intro C (And.intro W Z))))))
 try simp [go_sem,seval,r]
 repeat first|intro _|refine ⟨eL,?_⟩
 refine aP (λg=>?_) (λg=>?_)
 .try simp [go_sem] at g
  have b0:=a1 _ (aC g)
  have a6:iA a i=a[i]:=lA g
  have Y:=Q0 a b i
  rw [a6] at Y
  have s:0<=a[i]->a[i].toNat<b.length:=λh=>by omega
  have U:∀ h:0<=a[i],iA b a[i]=b[a[i].toNat]'(s h):=λh=>by unfold iA;rw [aA (s h)];rfl
  obtain ⟨I,o⟩:=cW (lF (Ks a b (i+1)) (List.replicate n 0))
  have hN:¬ 0<=a[i]->I=v:=λh=>by rw [o,Y,if_neg (λq=>h q.1),dE,<- X]
  by_cases f:0<=a[i]
  .skip
   try simp [go_sem,seval,r,g,aA g,l,f,aA (s f)]
   repeat first|intro _|refine ⟨eL,?_⟩
   refine aP (λG=>?_) (λG=>?_)
   .try simp [go_sem] at G
    have a0:0<=b[a[i].toNat]'(s f):=by simpa using G
    have a9:=a2 _ (aC (s f))
    have p:(b[a[i].toNat]'(s f)).toNat<v.length:=aD
    have j:I=v.set (b[a[i].toNat]'(s f)).toNat i:=by rw [o,Y,U f,if_pos ⟨f,a0⟩,sB,<- X]
    try simp [go_sem,seval,r,g,aA g,l,f,aA (s f),aA p,j,bY]
    repeat first|intro _|refine ⟨eL,?_⟩
    refine d7 (i+1) aD ((y _ _ _).2 ⟨(I),?_,?_,?_,?_,?_,?_,?_,?_,(by first|assumption|omega|(simp [go_sem,r,g,aA g,l,f,aA (s f),aA p,j,bY,G];done)|(simp_all<;>omega)),(by exact o),(by rw [o,gB,dM])⟩)<;>first|omega|(simp [go_sem,seval,r,g,aA g,l,f,aA (s f),aA p,j,bY]<;>omega)
   .try simp [go_sem] at G
    have j:I=v:=by
     rw [o,Y,if_neg,dE,<- X]
     rintro ⟨q1,q2⟩
     rw [U q1] at q2
     have:¬ 0<=b[a[i].toNat]'(s f):=by simpa using G
     omega
    try simp [go_sem,seval,r,g,aA g,l,f,aA (s f),j]
    repeat first|intro _|refine ⟨eL,?_⟩
    refine d7 (i+1) aD ((y _ _ _).2 ⟨(I),?_,?_,?_,?_,?_,?_,?_,?_,(by first|assumption|omega|(simp [go_sem,r,g,aA g,l,f,aA (s f),j,G];done)|(simp_all<;>omega)),(by exact o),(by rw [o,gB,dM])⟩)<;>first|omega|(simp [go_sem,seval,r,g,aA g,l,f,aA (s f),j]<;>omega)
  .skip
   try simp [go_sem,seval,r,g,aA g,l,f,hN f,Gw,cI]
   repeat first|intro _|refine ⟨eL,?_⟩
   refine d7 (i+1) aD ((y _ _ _).2 ⟨(I),?_,?_,?_,?_,?_,?_,?_,?_,(by first|assumption|omega|(simp [go_sem,r,g,aA g,l,f,hN f,Gw,cI];done)|(simp_all<;>omega)),(by exact o),(by rw [o,gB,dM])⟩)<;>first|omega|(simp [go_sem,seval,r,g,aA g,l,f,hN f,Gw,cI]<;>omega)
 .try simp [go_sem] at g
  have hX:v=lF (Ks a b a.length) (List.replicate n 0):=by rw [X,(aD:i=a.length)]
  try simp [go_sem,seval,r]
  obtain ⟨I2,F⟩:∃ I2:Nat->dJ->AHeap->Prop,∀ (k:Nat) (e:dJ) (H:AHeap),I2 k e H↔(∃ A:List Int,(e 0=dLI a)/\(e 1=dLI b)/\(e 2=dLI d)/\(e 3=dLI m)/\(e 11=.own 0 n)/\(e 13=dI k)/\(H.get 0=some ⟨3,1,A.map cI,false⟩)/\(0<H.next)/\(k<=d.length)/\(A=lF (OD d m k) v)/\(A.length=n)):=⟨λk e H=>_,λ_ _ _=>Iff.rfl⟩
  refine oD I2 (λk=>d.length - k) (0) ((F _ _ _).2 ⟨(v),?_,?_,?_,?_,?_,?_,(by simp [go_sem,r]),?_,(by first|assumption|omega|(simp [go_sem,r];done)|(simp_all;done)),(by rfl),(by exact l)⟩) ?_
  iterate 7 (first|omega|(simp [go_sem,seval,r]<;>omega))
  intro k e H a7
  obtain ⟨A,P,N,L,J,D,B,c,S,hk,hy,a5⟩:=(F _ _ _).1 a7
  have Z:=b8 S
  have z:=And.intro P (And.intro N (And.intro L (And.intro J (And.intro D (And.intro B Z)))))
  try simp [go_sem,seval,z,c]
  repeat first|intro _|refine ⟨eL,?_⟩
  refine aP (λu=>?_) (λu=>?_)
  .try simp [go_sem] at u
   have w:k<m.length:=aD
   have b1:=a3 _ (aC u)
   have p:d[k].toNat<A.length:=aD
   try simp [go_sem,seval,z,c,u,aA u,aA w,aA p]
   repeat first|intro _|refine ⟨eL,?_⟩
   refine d7 (k+1) aD ((F _ _ _).2 ⟨(A.set d[k].toNat m[k]),?_,?_,?_,?_,?_,?_,(by simp [go_sem,z,c,u,aA u,aA w,aA p,bY]),?_,(by first|assumption|omega|(simp [go_sem,z,c,u,aA u,aA w,aA p,g];done)|(simp_all<;>omega)),(by rw [QZ,lA u,lA w,sB,<- hy]),(by rw [g7];exact a5)⟩)<;>first|omega|(simp [go_sem,seval,z,c,u,aA u,aA w,aA p]<;>omega)
  .try simp [go_sem] at u
   have hE:A=wJ a b d m n:=by rw [hy,(aD:k=d.length),hX];rfl
   have V:=Gh a b d m n
   rw [hE] at c
   try simp [go_sem,seval,z,c,c]
   exact hQ _ _ (by first|(left;(simp [go_sem,z,c,c,V,dLI]);done)|(right;(simp [go_sem,z,c,c,V,dLI]);done))
theorem BM (n:Nat)(h d c f j keep:List Int)(hn:n<=1000000)(a1:d.length<=h.length)(a2:∀ x∈d,x<n)(a3:∀ x∈f,0<=x/\x<n)(a4:f.length<=j.length) :
  Pure Tryz.prog 186 [dI n,dLI h,dLI d,dLI c,dLI f,dLI j,dLI keep] (dLI (Bo n h d c f j keep)):=by
 refine Tz.pK ⟨λt=>t==15,λ_=>[]⟩ Tryz.func186 rfl (λQ hQ=>?_)
 try simp [go_sem,seval]
 repeat first|intro _|refine ⟨eL,?_⟩
 obtain ⟨I0,A⟩:∃ I0:Nat->dJ->AHeap->Prop,∀ (i:Nat) (e:dJ) (H:AHeap),I0 i e H↔(∃ w:List Int,(e 1=dLI h)/\(e 3=dLI c)/\(e 4=dLI f)/\(e 5=dLI j)/\(e 6=dLI keep)/\(e 15=.own 0 n)/\(e 22=dLI d)/\(e 23=dI d.length)/\(e 24=dI i)/\(H.get 0=some ⟨3,1,w.map cI,false⟩)/\(0<H.next)/\(i<=d.length)/\(w=lF (Ig h d c i) (List.replicate n 0))/\(w.length=n)):=⟨λi e H=>_,λ_ _ _=>Iff.rfl⟩
 refine oD I0 (λi=>d.length - i) (0) ((A _ _ _).2 ⟨((List.replicate n 0)),?_,?_,?_,?_,?_,?_,?_,?_,?_,?_,?_,(by first|assumption|omega|(simp [go_sem];done)|(simp_all;done)),(by rfl),(by simp)⟩) ?_
 iterate 11 (first|omega|(simp [go_sem,seval]<;>omega))
 intro i e H b0
 obtain ⟨w,Z,X,V,T,R,M,K,I,F,a7,a5,hi,hx,m⟩:=(A _ _ _).1 b0
 have x0:=b8 a5
 have v:=And.intro Z (And.intro X (And.intro V (And.intro T (And.intro R (And.intro M (And.intro K (And.intro I (And.intro F (And.intro a7 x0)))))))))
 try simp [go_sem,seval,v]
 refine aP (λp=>?_) (λp=>?_)
 .try simp [go_sem] at p
  have hP:=Ru h d c i
  have r:i<h.length:=aD
  rw [lA p,lA r] at hP
  have b2:=a2 _ (aC p)
  try simp [go_sem,seval,v,p,aA p,aA r,m]
  repeat first|intro _|refine ⟨eL,?_⟩
  refine aP (λO=>?_) (λO=>?_)
  .try simp [go_sem] at O
   have a8:0<=d[i]:=by simpa using O
   have g:d[i].toNat<w.length:=aD
   obtain ⟨y,a⟩:=cW (w.set d[i].toNat (idx c h[i]))
   have q:y=lF (Ig h d c (i+1)) (List.replicate n 0):=by rw [a,hP,if_pos a8,sB,<- hx]
   try simp [go_sem,seval,v,p,aA p,aA r,m,aA g,a,bY]
   repeat first|intro _|refine ⟨eL,?_⟩
   refine aB (vF c h[i]) ((by first|rfl|(simp [go_sem,<- List.map_take,<- List.map_drop,v,p,aA p,aA r,m,aA g,a,bY];done))) ?_
   try simp [go_sem,seval,v,p,aA p,aA r,m,aA g,a,bY]
   repeat first|intro _|refine ⟨eL,?_⟩
   refine d7 (i+1) aD ((A _ _ _).2 ⟨(y),?_,?_,?_,?_,?_,?_,?_,?_,?_,?_,?_,(by first|assumption|omega|(simp [go_sem,v,p,aA p,aA r,m,aA g,a,bY,O];done)|(simp_all<;>omega)),(by exact q),(by rw [q,gB,dM])⟩)<;>first|omega|(simp [go_sem,seval,v,p,aA p,aA r,m,aA g,a,bY]<;>omega)
  .try simp [go_sem] at O
   obtain ⟨y,a⟩:=cW (w)
   have q:y=lF (Ig h d c (i+1)) (List.replicate n 0):=by rw [a,hP,if_neg (bX O),dE,<- hx]
   try simp [go_sem,seval,v,p,aA p,aA r,m,a]
   repeat first|intro _|refine ⟨eL,?_⟩
   refine d7 (i+1) aD ((A _ _ _).2 ⟨(y),?_,?_,?_,?_,?_,?_,?_,?_,?_,?_,?_,(by first|assumption|omega|(simp [go_sem,v,p,aA p,aA r,m,a,O];done)|(simp_all<;>omega)),(by exact q),(by rw [q,gB,dM])⟩)<;>first|omega|(simp [go_sem,seval,v,p,aA p,aA r,m,a]<;>omega)
 .try simp [go_sem] at p
  have hX:w=lF (Ig h d c d.length) (List.replicate n 0):=by rw [hx,(aD:i=d.length)]
  try simp [go_sem,seval,v]
  repeat first|intro _|refine ⟨eL,?_⟩
  obtain ⟨I2,z⟩:∃ I2:Nat->dJ->AHeap->Prop,∀ (k:Nat) (e:dJ) (H:AHeap),I2 k e H↔(∃ B:List Int,(e 1=dLI h)/\(e 3=dLI c)/\(e 4=dLI f)/\(e 5=dLI j)/\(e 6=dLI keep)/\(e 15=.own 0 n)/\(e 22=dLI d)/\(e 23=dI d.length)/\(e 41=dLI f)/\(e 42=dI f.length)/\(e 43=dI k)/\(H.get 0=some ⟨3,1,B.map cI,false⟩)/\(0<H.next)/\(k<=f.length)/\(B=lF (KW f j keep k) w)/\(B.length=n)):=⟨λk e H=>_,λ_ _ _=>Iff.rfl⟩
  refine oD I2 (λk=>f.length - k) (0) ((z _ _ _).2 ⟨(w),?_,?_,?_,?_,?_,?_,?_,?_,?_,?_,?_,(by simp [go_sem,v]),?_,(by first|assumption|omega|(simp [go_sem,v];done)|(simp_all;done)),(by rfl),(by exact m)⟩) ?_
  iterate 12 (first|omega|(simp [go_sem,seval,v]<;>omega))
  intro k e H a9
  obtain ⟨B,Y,W,U,S,P,L,J,G,E,D,C,b,a0,hk,hy,b1⟩:=(z _ _ _).1 a9
  have x0:=b8 a0
  have u:=And.intro Y (And.intro W (And.intro U (And.intro S (And.intro P (And.intro L (And.intro J (And.intro G (And.intro E (And.intro D (And.intro C x0))))))))))
  try simp [go_sem,seval,u,b]
  refine aP (λl=>?_) (λl=>?_)
  .try simp [go_sem] at l
   have o:k<j.length:=aD
   have b3:=a3 _ (aC l)
   have g:f[k].toNat<B.length:=aD
   have N:=Rt f j keep k
   rw [lA l,lA o] at N
   try simp [go_sem,seval,u,b,l,aA l,aA o,aA g]
   repeat first|intro _|refine ⟨eL,?_⟩
   refine aB (fR keep k) ((by first|rfl|(simp [go_sem,<- List.map_take,<- List.map_drop,u,b,l,aA l,aA o,aA g];done))) ?_
   try simp [go_sem,seval,u,b,l,aA l,aA o,aA g]
   repeat first|intro _|refine ⟨eL,?_⟩
   refine aP (λs=>?_) (λs=>?_)
   .try simp [go_sem] at s
    obtain ⟨y,a⟩:=cW (B.set f[k].toNat j[k])
    have q:y=lF (KW f j keep (k+1)) w:=by rw [a,N,if_neg (bX s),sB,<- hy]
    try simp [go_sem,seval,u,b,l,aA l,aA o,aA g,a,bY]
    repeat first|intro _|refine ⟨eL,?_⟩
    refine d7 (k+1) aD ((z _ _ _).2 ⟨(y),?_,?_,?_,?_,?_,?_,?_,?_,?_,?_,?_,(by simp [go_sem,u,b,l,aA l,aA o,aA g,a,bY]),?_,(by first|assumption|omega|(simp [go_sem,u,b,l,aA l,aA o,aA g,a,bY,p,s];done)|(simp_all<;>omega)),(by exact q),(by rw [q,gB];exact m)⟩)<;>first|omega|(simp [go_sem,seval,u,b,l,aA l,aA o,aA g,a,bY]<;>omega)
   .try simp [go_sem] at s
    obtain ⟨y,a⟩:=cW (B)
    have q:y=lF (KW f j keep (k+1)) w:=by rw [a,N,if_pos (bX s),dE,<- hy]
    try simp [go_sem,seval,u,b,l,aA l,aA o,aA g,a]
    repeat first|intro _|refine ⟨eL,?_⟩
    refine d7 (k+1) aD ((z _ _ _).2 ⟨(y),?_,?_,?_,?_,?_,?_,?_,?_,?_,?_,?_,(by simp [go_sem,u,b,l,aA l,aA o,aA g,a]),?_,(by first|assumption|omega|(simp [go_sem,u,b,l,aA l,aA o,aA g,a,p,s];done)|(simp_all<;>omega)),(by exact q),(by rw [q,gB];exact m)⟩)<;>first|omega|(simp [go_sem,seval,u,b,l,aA l,aA o,aA g,a]<;>omega)
  .try simp [go_sem] at l
   have hE:B=Bo n h d c f j keep:=by rw [hy,(aD:k=f.length),hX];rfl
   have a6:=ST n h d c f j keep
   rw [hE] at b
   try simp [go_sem,seval,u,b,b]
   exact hQ _ _ (by first|(left;(simp [go_sem,u,b,b,a6,dLI]);done)|(right;(simp [go_sem,u,b,b,a6,dLI]);done))
def Aq (t:Types)(s:Stp26):Bool:=decide (nT t s.rule s.before s.mat=0)&&decide (fU t s.rule s.before s.mat=s)
theorem q8 {t:Types}{s:Stp26}(e:s.rule.ok)(h:Aq t s=true):s=bG t s.rule s.before s.mat/\StepOk t s.rule s.before s.mat/\UndOk t s:=by
 unfold Aq at h
 simp only [aQ,decide_eq_true_eq] at h
 obtain ⟨b,a⟩:=h
 unfold fU at a
 rw [if_pos b] at a
 have f:iJ t s.rule s.before=0/\k8 t s.rule s.before s.mat=0:=by
  unfold nT at b
  split at b
  .contradiction
  .rename_i hh;exact ⟨by simpa using hh,b⟩
 obtain ⟨d,c⟩:=Dj f.1
 have K:=RW (Pz e d) (sM c) f.2
 refine ⟨a.symm,K,?_⟩
 have g:=K.undOk e
 rw [a] at g;exact g
theorem Nj:(Cond.mk 1 [] ⟨[],[]⟩ QY).ok/\(Cond.mk 1 [] ⟨[],[]⟩ QY).size<=1000000:=by
 refine ⟨(qW _).2 ⟨⟨?_,?_,?_,?_,?_,?_⟩,?_⟩,?_⟩<;>simp [Cond.map,Cond.pattern,Cond.kids,QY,Cond.size,Cond.sizes]
theorem xV {t:Types}{s:Stp26}(b:s.rule.ok)(a:UndOk t s):(d8 t s).ok:=by
 obtain ⟨⟨⟨f,e⟩,d,c⟩⟩:=show _/\True from ⟨a.sz,trivial⟩
 have h:=E9 s.rule.into.nodes s.rule.right.graph.nodes.length
 have g:=E9 s.rule.into.edges s.rule.right.graph.edges.length
 refine ⟨b.name,?_,?_,?_,?_,Nj.1,Nj.2⟩
 .show (fW s.rule.into.nodes s.rule.right.graph.nodes.length).length<=1000000;omega
 .show (fW s.rule.into.edges s.rule.right.graph.edges.length).length<=1000000;omega
 .show (dW (fW s.rule.into.nodes s.rule.right.graph.nodes.length) s.rule.into.nodes s.rule.keep.nodes).length<=1000000;unfold dW;rw [aV];omega
 .show (dW (fW s.rule.into.edges s.rule.right.graph.edges.length) s.rule.into.edges s.rule.keep.edges).length<=1000000;unfold dW;rw [aV];omega
def AX (t:Types)(s:Stp26):Int:=if (b9 t).2≠0 then (b9 t).2 else if Aq t s=true then 0 else 1
def Ax (t:Types)(s:Stp26):Int:=if AX t s≠0 then AX t s else pP t s
def oX (t:Types)(s:Stp26):Rule:=if AX t s≠0 then jN else tB t s
structure CmpA (t:Types) (s:Stp26):Prop where
 b:∀ i (h1:i<(fU t s.rule s.before s.mat).before.values.length) (h2:i<s.before.values.length),zO (fU t s.rule s.before s.mat).before.values[i] s.before.values[i]
 a:∀ i (h1:i<(fU t s.rule s.before s.mat).after.values.length) (h2:i<s.after.values.length),zO (fU t s.rule s.before s.mat).after.values[i] s.after.values[i]
theorem AB (t:Types)(m:t.ok)(s:Stp26)(q:s.rule.ok):Pure Tryz.prog 87 [t.d,.agg s.c] (.tup [(oX t s).d,dI (Ax t s)]):=by
 have v:=Ay t m
 have p:=DI t m s q rfl rfl
 have n:Aq t s=true->Pure Tryz.prog 102 [t.d,.agg s.c] (.tup [(tB t s).d,dI (pP t s)]):=λh=>wY t m s (q8 q h).2.2
 obtain ⟨b,f⟩:=cW (Aq t s)
 have a:(decide (nT t s.rule s.before s.mat=0)&&decide (fU t s.rule s.before s.mat=s))=b:=f.symm
 rw [a] at p
 rw [<- f] at n
 obtain ⟨e,g⟩:=cW ((b9 t).2)
 rw [<- g] at v
 have r:oX t s=if e≠0 then jN else if b=true then tB t s else jN:=by unfold oX AX;rw [<- g,<- f];by_cases l:e=0<;>by_cases k:b=true<;>simp [l,k]
 have u:Ax t s=if e≠0 then e else if b=true then pP t s else 1:=by unfold Ax AX;rw [<- g,<- f];by_cases l:e=0<;>by_cases k:b=true<;>simp [l,k]
 rw [r,u]
 simp only [Stp26.c,Rule.c,Mat.c,Host.c,cX,cZ] at p n
 clear f a g r u
 refine Tz.pK ⟨λt=>t==4,λ_=>[]⟩ Tryz.func87 rfl (λQ o=>?_)
 have Y:=wa @Stp26.c.eq_1 (wa @Rule.c.eq_1 (wa @Mat.c.eq_1 @Host.c.eq_1))
 refine pM (h:=aB (v) wl ?_)
 refine pM (h:=wq (λj=>?_) λj=>?_)
 .exact pM (h:=o _ _ (by simp [go_sem,j,jN,nZ,Rule.d,Rule.c,Cond.kind,Cond.kids,Cond.map,Cond.pattern]))
 .refine jM (h:=aB (p) wl ?_)
  refine jM (h:=wq (λi=>?_) λi=>?_)
  .exact pM (h:=o _ _ (by simp [go_sem,j,i,jN,nZ,Rule.d,Rule.c,Cond.kind,Cond.kids,Cond.map,Cond.pattern]))
  .refine pM (h:=aB (n (bX i)) wl ?_)
   exact pM (h:=o _ _ (by simp [go_sem,j,i]))
theorem Kd (t:Types)(b:t.ok)(s:Stp26)(e:s.rule.ok):Pure Tryz.prog 28 [t.d,.agg s.c] (.tup [(oX t s).d,dI (Ax t s)]):=by
 have a:=AB t b s e
 simp only [Stp26.c,Rule.c,Mat.c,Host.c,cX,cZ] at a
 refine Tz.pK ⟨λt=>t==4,λ_=>[]⟩ Tryz.func28 rfl (λQ f=>?_)
 have Y:=wa @Stp26.c.eq_1 (wa @Rule.c.eq_1 (wa @Mat.c.eq_1 @Host.c.eq_1))
 refine pM (h:=aB (a) wl ?_)
 exact pM (h:=f _ _ wy)
def Cf (s u:Stp26):Part:=⟨wJ s.track.nodes u.track.nodes u.comatch.nodes s.mat.m.nodes u.after.graph.nodes.length,wJ s.track.edges u.track.edges u.comatch.edges s.mat.m.edges u.after.graph.edges.length⟩
structure IsoOk (s u:Stp26):Prop where
 fn:u.after.graph.nodes.length<=1000000/\u.after.graph.edges.length<=1000000
 ft:(∀ x∈s.track.nodes,x<u.track.nodes.length)/\∀ x∈s.track.edges,x<u.track.edges.length
 fu:(∀ x∈u.track.nodes,x<u.after.graph.nodes.length)/\∀ x∈u.track.edges,x<u.after.graph.edges.length
 fc:(∀ x∈u.comatch.nodes,0<=x/\x<u.after.graph.nodes.length)/\∀ x∈u.comatch.edges,0<=x/\x<u.after.graph.edges.length
 fm:u.comatch.nodes.length<=s.mat.m.nodes.length/\u.comatch.edges.length<=s.mat.m.edges.length
theorem QH (s u:Stp26)(h:IsoOk s u):Pure Tryz.prog 92 [.agg s.c,.agg u.c] (Cf s u).d:=by
 have e:=AC s.track.nodes u.track.nodes u.comatch.nodes s.mat.m.nodes u.after.graph.nodes.length h.fn.1 h.ft.1 h.fu.1 h.fc.1 h.fm.1
 have f:=AC s.track.edges u.track.edges u.comatch.edges s.mat.m.edges u.after.graph.edges.length h.fn.2 h.ft.2 h.fu.2 h.fc.2 h.fm.2
 obtain ⟨p,b⟩:=cW (wJ s.track.nodes u.track.nodes u.comatch.nodes s.mat.m.nodes u.after.graph.nodes.length)
 obtain ⟨q,a⟩:=cW (wJ s.track.edges u.track.edges u.comatch.edges s.mat.m.edges u.after.graph.edges.length)
 have i:Cf s u=⟨p,q⟩:=by rw [b,a];rfl
 rw [<- b] at e
 rw [<- a] at f
 rw [i]
 refine Tz.pK ⟨λt=>t==4,λ_=>[]⟩ Tryz.func92 rfl (λQ g=>?_)
 have Y:=wa @Stp26.c.eq_1 (wa @Rule.c.eq_1 (wa @Mat.c.eq_1 @Host.c.eq_1))
 refine jM (h:=aI (e) wl ?_)
 refine jM (h:=aI (f) wl ?_)
 exact jM (h:=g _ _ wy)
def stpZ:List D:=[.str ⟨#[]⟩,.nil,.nil,.nil,.int .i64 (0),.nil,.nil,.nil,.nil,.int .i64 (0),.nil,.nil,.nil,.nil,.nil,.bool false,.int .i64 (0),.nil,.nil,.nil,.nil,.nil,.nil,.int .i64 (0),.nil,.nil,.nil,.nil,.nil,.nil,.nil,.nil,.nil,.nil,.nil,.nil,.nil,.nil]
@[go_sem] theorem WR:stpZ.length=38:=rfl
def sR (s u:Stp26)(m0:Part):Part:=⟨Bo u.after.graph.nodes.length m0.nodes u.track.nodes s.track.nodes u.comatch.nodes s.mat.m.nodes s.rule.keep.nodes,Bo u.after.graph.edges.length m0.edges u.track.edges s.track.edges u.comatch.edges s.mat.m.edges s.rule.keep.edges⟩
structure BackOk (s u:Stp26) (m0:Part):Prop where
 fn:u.after.graph.nodes.length<=1000000/\u.after.graph.edges.length<=1000000
 fi:u.track.nodes.length<=m0.nodes.length/\u.track.edges.length<=m0.edges.length
 fu:(∀ x∈u.track.nodes,x<u.after.graph.nodes.length)/\∀ x∈u.track.edges,x<u.after.graph.edges.length
 fc:(∀ x∈u.comatch.nodes,0<=x/\x<u.after.graph.nodes.length)/\∀ x∈u.comatch.edges,0<=x/\x<u.after.graph.edges.length
 fm:u.comatch.nodes.length<=s.mat.m.nodes.length/\u.comatch.edges.length<=s.mat.m.edges.length
def r8 (s:Stp26)(m0:Part):Mat:=⟨⟨s.comatch.nodes.map (idx m0.nodes),s.comatch.edges.map (idx m0.edges)⟩,[]⟩
theorem Sc (t:Types):l8 t.d=t.d:=by simp [Types.d,Types.c,l8,i6,IS,D1]
theorem TA (r:Rule):l8 r.d=r.d:=by simp [Rule.d,Rule.c,l8,i6,dLI,dI,eH,yS,Mz,My,Sd]
theorem TB (h:Host):l8 h.d=h.d:=by simp [Host.d,Host.c,l8,i6,dLI,dI,eH,yS,XD]
theorem U6 (l:List Int):l8 (dLI l)=dLI l:=by simp [dLI,l8,eH]
theorem Uc (t:Types)(r:Rule)(h:Host)(a b:List Int):[t.d,r.d,h.d,.agg [dLI a,dLI b,.nil]].map l8=[t.d,r.d,h.d,.agg [dLI a,dLI b,dLI []]]:=by
 simp [Sc,TA,TB,l8,i6,U6];simp [dLI]
theorem BL (t:Types)(ht:t.ok)(s:Stp26)(r:Rule)(hr:r.ok)(h:Host)(j:Part)(d1:s.comatch.nodes.length<=1000)(d0:s.comatch.edges.length<=1000){v:Stp26}{er:Int}(hv:v=fU t r h (r8 s j))(he:er=nT t r h (r8 s j))(y:er=0->BackOk s v j) :
  Pure Tryz.prog 90 [t.d,.agg s.c,r.d,h.d,j.d] (.tup [.agg (if er=0 then v else kJ).c,(if er=0 then sR s v j else ⟨[],[]⟩:Part).d,dI er]):=by
 have X:=BB t ht r hr h (r8 s j) hv he
 obtain ⟨M1,U⟩:∃ M,M=s.comatch.nodes.map (idx j.nodes):=⟨_,rfl⟩
 obtain ⟨M2,T⟩:∃ M,M=s.comatch.edges.map (idx j.edges):=⟨_,rfl⟩
 have c8:r8 s j=⟨⟨M1,M2⟩,[]⟩:=by rw [U,T];rfl
 rw [c8] at X
 have l1:M1.length=s.comatch.nodes.length:=by rw [U];simp
 have l2:M2.length=s.comatch.edges.length:=by rw [T];simp
 have bN:=λz:er=0=>BM v.after.graph.nodes.length j.nodes v.track.nodes s.track.nodes v.comatch.nodes s.mat.m.nodes s.rule.keep.nodes (y z).fn.1 (y z).fi.1 (y z).fu.1 (y z).fc.1 (y z).fm.1
 have bE:=λz:er=0=>BM v.after.graph.edges.length j.edges v.track.edges s.track.edges v.comatch.edges s.mat.m.edges s.rule.keep.edges (y z).fn.2 (y z).fi.2 (y z).fu.2 (y z).fc.2 (y z).fm.2
 obtain ⟨p,hp⟩:=cW (Bo v.after.graph.nodes.length j.nodes v.track.nodes s.track.nodes v.comatch.nodes s.mat.m.nodes s.rule.keep.nodes)
 obtain ⟨q,hq⟩:=cW (Bo v.after.graph.edges.length j.edges v.track.edges s.track.edges v.comatch.edges s.mat.m.edges s.rule.keep.edges)
 have hI:sR s v j=⟨p,q⟩:=by rw [hp,hq];rfl
 rw [<- hp] at bN
 rw [<- hq] at bE
 rw [hI]
 simp only [Stp26.c,Rule.c,Mat.c,Host.c,cX,cZ] at X
 have X:=X.nzk (Uc t r h M1 M2)
 unfold Rule.d Host.d at X
 simp only [Rule.c,Host.c] at X
 clear y hp hq hI hv he
 refine Tz.pK ⟨λt=>t==10||t==11||t==13||t==18,λr=>match r with|5=>[(0,7),(1,7),(2,7)]|10=>[(0,7),(1,7),(2,7)]|_=>[]⟩ Tryz.func90 rfl (λQ hQ=>?_)
 try simp -implicitDefEqProofs [go_sem,seval,Stp26.c,Rule.c,Mat.c,Host.c]
 repeat first|intro _|refine ⟨eL,?_⟩
 obtain ⟨I0,W⟩:∃ I0:Nat->dJ->AHeap->Prop,∀ (i:Nat) (e:dJ) (H:AHeap),I0 i e H↔((e 5=.adr t.c)/\(e 6=.adr s.c)/\(e 7=.adr r.c)/\(e 8=.adr h.c)/\(e 9=.adr j.c)/\(e 10=.ptr 0 1 0 0)/\(e 11=.ptr 1 1 0 0)/\(e 13=.ptr 2 1 0 0)/\(e 22=dLI s.comatch.nodes)/\(e 23=dI s.comatch.nodes.length)/\(e 24=dI i)/\(H.get 0=some ⟨53,38,[stpZ],false⟩)/\(0<H.next)/\(H.get 1=some ⟨36,2,[[.nil,.nil]],false⟩)/\(1<H.next)/\(H.get 2=some ⟨46,3,[[.own 3 i,.own 4 0,.nil]],false⟩)/\(2<H.next)/\(H.get 3=some ⟨3,1,((s.comatch.nodes.take i).map (idx j.nodes)).map cI,false⟩)/\(3<H.next)/\(H.get 4=some ⟨3,1,[],false⟩)/\(4<H.next)/\(i<=s.comatch.nodes.length)):=⟨λi e H=>_,λ_ _ _=>Iff.rfl⟩
 refine Ky (Ghosts.step (Ghosts.step (Ghosts.refl _) 2 0 0 3 1 _ _ (rfl) rfl rfl rfl) 2 0 1 3 1 _ _ (rfl) rfl rfl rfl) I0 (λi=>s.comatch.nodes.length - i) (0) ((W _ _ _).2 ⟨?_,?_,?_,?_,?_,?_,?_,?_,?_,?_,?_,(by simp [go_sem,Stp26.c,Rule.c,Mat.c,Host.c,stpZ]),?_,?_,?_,?_,?_,(by rfl),?_,?_,?_,(by first|assumption|omega|(simp [go_sem,Stp26.c,Rule.c,Mat.c,Host.c];done)|(simp_all;done))⟩) ?_
 iterate 19 (first|omega|(simp [go_sem,seval,Stp26.c,Rule.c,Mat.c,Host.c]<;>omega))
 intro i e H c7
 obtain ⟨a7,a5,a3,a1,Z,S,P,N,K,I,F,c5,b7,c3,b5,g,b3,f,b1,B,a9,hi⟩:=(W _ _ _).1 c7
 have x0:=b8 b7
 have x1:=b8 b5
 have x2:=b8 b3
 have x3:=b8 b1
 have x4:=b8 a9
 have A:=And.intro a7 (And.intro a5 (And.intro a3 (And.intro a1 (And.intro Z (And.intro S (And.intro P (And.intro N (And.intro K (And.intro I (And.intro F (And.intro c5 (And.intro c3 (And.intro B (And.intro x0 (And.intro x1 (And.intro x2 (And.intro x3 x4)))))))))))))))))
 try simp -implicitDefEqProofs [go_sem,seval,Stp26.c,Rule.c,Mat.c,Host.c,A,g,f]
 refine aP (λo=>?_) (λo=>?_)
 .try simp [go_sem] at o
  have c9:(s.comatch.nodes.take (i+1)).map (idx j.nodes)=(s.comatch.nodes.take i).map (idx j.nodes)++[idx j.nodes s.comatch.nodes[i]]:=by rw [aE o,List.map_append];rfl
  have w:((s.comatch.nodes.take i).map (idx j.nodes)).length=i:=by simp;omega
  try simp -implicitDefEqProofs [go_sem,seval,Stp26.c,Rule.c,Mat.c,Host.c,A,g,f,o,aA o,w]
  repeat first|intro _|refine ⟨eL,?_⟩
  refine aI (vF j.nodes s.comatch.nodes[i]) ((by first|rfl|(simp [go_sem,<- List.map_take,<- List.map_drop,Stp26.c,Rule.c,Mat.c,Host.c,A,g,f,o,aA o,w];done))) ?_
  try simp -implicitDefEqProofs [go_sem,seval,Stp26.c,Rule.c,Mat.c,Host.c,A,g,f,o,aA o,w]
  repeat first|intro _|refine ⟨eL,?_⟩
  refine d7 (i+1) aD ((W _ _ _).2 ⟨?_,?_,?_,?_,?_,?_,?_,?_,?_,?_,?_,(by simp [go_sem,Stp26.c,Rule.c,Mat.c,Host.c,A,g,f,o,aA o,w]),?_,?_,?_,?_,?_,(by simp [go_sem,Stp26.c,Rule.c,Mat.c,Host.c,A,g,f,o,aA o,w,c9]),?_,?_,?_,(by first|assumption|omega|(simp [go_sem,Stp26.c,Rule.c,Mat.c,Host.c,A,g,f,o,aA o,w];done)|(simp_all<;>omega))⟩)<;>first|omega|(simp [go_sem,seval,Stp26.c,Rule.c,Mat.c,Host.c,A,g,f,o,aA o,w]<;>omega)
 .try simp [go_sem] at o
  have hI:i=s.comatch.nodes.length:=aD
  rw [aG aD,<- U] at f
  rw [hI,<- l1] at g
  try simp -implicitDefEqProofs [go_sem,seval,Stp26.c,Rule.c,Mat.c,Host.c,A,g,f,f,g]
  repeat first|intro _|refine ⟨eL,?_⟩
  obtain ⟨I2,V⟩:∃ I2:Nat->dJ->AHeap->Prop,∀ (k:Nat) (e:dJ) (H:AHeap),I2 k e H↔((e 5=.adr t.c)/\(e 6=.adr s.c)/\(e 7=.adr r.c)/\(e 8=.adr h.c)/\(e 9=.adr j.c)/\(e 10=.ptr 0 1 0 0)/\(e 11=.ptr 1 1 0 0)/\(e 13=.ptr 2 1 0 0)/\(e 22=dLI s.comatch.nodes)/\(e 23=dI s.comatch.nodes.length)/\(e 42=dLI s.comatch.edges)/\(e 43=dI s.comatch.edges.length)/\(e 44=dI k)/\(H.get 0=some ⟨53,38,[stpZ],false⟩)/\(0<H.next)/\(H.get 1=some ⟨36,2,[[.nil,.nil]],false⟩)/\(1<H.next)/\(H.get 2=some ⟨46,3,[[.own 3 M1.length,.own 4 k,.nil]],false⟩)/\(2<H.next)/\(H.get 3=some ⟨3,1,M1.map cI,false⟩)/\(3<H.next)/\(H.get 4=some ⟨3,1,((s.comatch.edges.take k).map (idx j.edges)).map cI,false⟩)/\(4<H.next)/\(k<=s.comatch.edges.length)):=⟨λk e H=>_,λ_ _ _=>Iff.rfl⟩
  refine oD I2 (λk=>s.comatch.edges.length - k) (0) ((V _ _ _).2 ⟨?_,?_,?_,?_,?_,?_,?_,?_,?_,?_,?_,?_,?_,?_,?_,?_,?_,?_,?_,?_,?_,(by exact B),?_,(by first|assumption|omega|(simp [go_sem,Stp26.c,Rule.c,Mat.c,Host.c,A,g,f,f,g];done)|(simp_all;done))⟩) ?_
  iterate 22 (first|omega|(simp [go_sem,seval,Stp26.c,Rule.c,Mat.c,Host.c,A,g,f,f,g]<;>omega))
  intro k e H c6
  obtain ⟨a6,a4,a2,a0,Y,R,O,L,J,G,E,D,C,c4,b6,c2,b4,b,b2,c1,b0,a,a8,hk⟩:=(V _ _ _).1 c6
  have x0:=b8 b6
  have x1:=b8 b4
  have x2:=b8 b2
  have x3:=b8 b0
  have x4:=b8 a8
  have n:=And.intro a6 (And.intro a4 (And.intro a2 (And.intro a0 (And.intro Y (And.intro R (And.intro O (And.intro L (And.intro J (And.intro G (And.intro E (And.intro D (And.intro C (And.intro c4 (And.intro c2 (And.intro c1 (And.intro x0 (And.intro x1 (And.intro x2 (And.intro x3 x4)))))))))))))))))))
  try simp -implicitDefEqProofs [go_sem,seval,Stp26.c,Rule.c,Mat.c,Host.c,n,b,a]
  refine aP (λu=>?_) (λu=>?_)
  .try simp [go_sem] at u
   have c0:(s.comatch.edges.take (k+1)).map (idx j.edges)=(s.comatch.edges.take k).map (idx j.edges)++[idx j.edges s.comatch.edges[k]]:=by rw [aE u,List.map_append];rfl
   have l:((s.comatch.edges.take k).map (idx j.edges)).length=k:=by simp;omega
   try simp -implicitDefEqProofs [go_sem,seval,Stp26.c,Rule.c,Mat.c,Host.c,n,b,a,u,aA u,l]
   repeat first|intro _|refine ⟨eL,?_⟩
   refine aI (vF j.edges s.comatch.edges[k]) ((by first|rfl|(simp [go_sem,<- List.map_take,<- List.map_drop,Stp26.c,Rule.c,Mat.c,Host.c,n,b,a,u,aA u,l];done))) ?_
   try simp -implicitDefEqProofs [go_sem,seval,Stp26.c,Rule.c,Mat.c,Host.c,n,b,a,u,aA u,l]
   repeat first|intro _|refine ⟨eL,?_⟩
   refine d7 (k+1) aD ((V _ _ _).2 ⟨?_,?_,?_,?_,?_,?_,?_,?_,?_,?_,?_,?_,?_,?_,?_,?_,?_,?_,?_,?_,?_,(by simp [go_sem,Stp26.c,Rule.c,Mat.c,Host.c,n,b,a,u,aA u,l,c0]),?_,(by first|assumption|omega|(simp [go_sem,Stp26.c,Rule.c,Mat.c,Host.c,n,b,a,u,aA u,l,o];done)|(simp_all<;>omega))⟩)<;>first|omega|(simp [go_sem,seval,Stp26.c,Rule.c,Mat.c,Host.c,n,b,a,u,aA u,l]<;>omega)
  .try simp [go_sem] at u
   have hK:k=s.comatch.edges.length:=aD
   rw [aG aD,<- T] at a
   rw [hK,<- l2] at b
   try simp -implicitDefEqProofs [go_sem,seval,Stp26.c,Rule.c,Mat.c,Host.c,n,b,a,a,b]
   refine Ny (X) (by (simp [go_sem,Stp26.c,Rule.c,Mat.c,Host.c,n,b,a,a,b])<;>rfl) ((by first|rfl|(simp [go_sem,<- List.map_take,<- List.map_drop,Stp26.c,Rule.c,Mat.c,Host.c,n,b,a,a,b];done))) (by (simp [go_sem,Stp26.c,Rule.c,Mat.c,Host.c,n,b,a,a,b])<;>rfl) ?_
   try simp -implicitDefEqProofs [go_sem,seval,Stp26.c,Rule.c,Mat.c,Host.c,n,b,a,a,b]
   refine aP (λx=>?_) (λx=>?_)
   .try simp [go_sem] at x
    try simp -implicitDefEqProofs [go_sem,seval,Stp26.c,Rule.c,Mat.c,Host.c,n,b,a,a,b]
    have b9:¬ er=0:=by simpa using x
    exact hQ _ _ (by first|(left;(simp [go_sem,b9,kJ,jN,nZ,iO,Part.d,Part.c,Stp26.c,Rule.c,Mat.c,Host.c,Cond.kind,Cond.kids,Cond.map,Cond.pattern,dLI,dI]);done)|(right;(simp [go_sem,b9,kJ,jN,nZ,iO,Part.d,Part.c,Stp26.c,Rule.c,Mat.c,Host.c,Cond.kind,Cond.kids,Cond.map,Cond.pattern,dLI,dI]);done))
   .try simp [go_sem] at x
    try simp -implicitDefEqProofs [go_sem,seval,Stp26.c,Rule.c,Mat.c,Host.c,n,b,a,a,b]
    repeat first|intro _|refine ⟨eL,?_⟩
    refine aI (bN (bX x)) ((by first|rfl|(simp [go_sem,<- List.map_take,<- List.map_drop,Stp26.c,Rule.c,Mat.c,Host.c,n,b,a,a,b];done))) ?_
    try simp -implicitDefEqProofs [go_sem,seval,Stp26.c,Rule.c,Mat.c,Host.c,n,b,a,a,b]
    repeat first|intro _|refine ⟨eL,?_⟩
    refine aI (bE (bX x)) ((by first|rfl|(simp [go_sem,<- List.map_take,<- List.map_drop,Stp26.c,Rule.c,Mat.c,Host.c,n,b,a,a,b];done))) ?_
    try simp -implicitDefEqProofs [go_sem,seval,Stp26.c,Rule.c,Mat.c,Host.c,n,b,a,a,b]
    repeat first|intro _|refine ⟨eL,?_⟩
    have hz:er=0:=by simpa using x
    exact hQ _ _ (by first|(left;(simp [go_sem,Stp26.c,Rule.c,Mat.c,Host.c,n,b,a,a,b,hz,Part.d,Part.c,Stp26.c,Rule.c,Mat.c,Host.c]);done)|(right;(simp [go_sem,Stp26.c,Rule.c,Mat.c,Host.c,n,b,a,a,b,hz,Part.d,Part.c,Stp26.c,Rule.c,Mat.c,Host.c]);done))
def xS (s:Stp26)(b:Part):Stp26:=⟨s.rule,s.mat,s.before,s.after,⟨e8 s.track.nodes b.nodes,e8 s.track.edges b.edges⟩,s.comatch⟩
def w5 (m:Part):Part:=⟨iY m.nodes,iY m.edges⟩
def o8 (g:Graph):Part:=⟨iW g.nodes.length,iW g.edges.length⟩
theorem wK {n:Nat}{k:Int}(h0:0<=k)(h:k<n):iA (iW n) k=k:=by
 unfold iA iW
 rw [aN,oM aD]
 simp;omega
theorem Kv {n:Nat}:∀ x∈iW n,0<=x/\x<n:=λx hx=>by
 unfold iW at hx
 obtain ⟨k,hk,rfl⟩:=bB.1 hx
 have:=bK.1 hk
 omega
theorem EY (n:Nat):(iW n).Nodup:=by
 unfold iW
 rw [q9,List.pairwise_map]
 exact List.pairwise_lt_range.imp λh=>by omega
theorem KD {n:Nat}{k:Int}(a:0<=k)(h:k<n):iA (iY (iW n)) k=k:=by
 have:=(KE (vC n) Kv (EY n) a h).2
 rw [wK a h] at this;exact this
theorem Jg {t:Types}{g:Host}(ho:HostOk t g):HIso g g (o8 g.graph) where
 nl:=vC _
 el:=vC _
 nn:=rfl
 en:=rfl
 av:=ho.vl
 bv:=ho.vl
 ni:=Kv
 ei:=Kv
 nd:=EY _
 ed:=EY _
 ty p h0 h:=by show _=gN g.graph (iA (iW _) p);rw [wK h0 h]
 eg p h0 h:=by
  have hE:=Fb ho.gg h0 h
  show eA g.graph (iA (iW _) p)=⟨_,iA (iW _) _,iA (iW _) _⟩
  rw [wK h0 h,wK hE.1.1 hE.1.2,wK hE.2.1.1 hE.2.1.2]
 va p h0 h:=by show _=g.values[(iA (iW _) p).toNat]?.getD [];rw [wK h0 h]
theorem Ca {l:List Int}{f:Int->Int}(h:∀ x∈l,f x=x):l.map f=l:=(bU (g:=id) h).trans (List.map_id l)
theorem LB {l:List Int}{n:Nat}(h:∀ x∈l,x<n):e8 l (iY (iW n))=l:=by
 unfold e8
 refine Ca λx a=>?_
 split
 .exact KD (by assumption) (h x a)
 .rfl
section
variable {t:Types} {r:Rule} {h g:Host} {m m':Mat} {m0:Part}
theorem uS {t:Types}{r:Rule}{h:Host}{m:Mat}(d:r.ok)(a:nT t r h m=0):StepOk t r h m:=by
 unfold nT at a
 split at a
 .contradiction
 .rename_i hg
  obtain ⟨c,b⟩:=Dj (bX hg)
  exact RW (Pz d c) (sM b) a
theorem StepIn.t_lt (S:StepIn t r h m):(∀ x∈(cO r h m).nodes,x<(cT t r h m).graph.nodes.length)/\∀ x∈(cO r h m).edges,x<(cT t r h m).graph.edges.length:=by
 constructor
 .intro x hx
  obtain ⟨i,a,rfl⟩:=AL hx
  rw [S.trN] at a ⊢
  rw [gS] at a
  rw [S.sizeN]
  by_cases b:(i:Int)∈l7 r.keep.nodes m.m.nodes h.graph.nodes.length
  .obtain ⟨p,d,c,_⟩:=S.srtN.t_in b
   omega
  .rw [S.srtN.t_out aD b];omega
 .intro x hx
  obtain ⟨i,a,rfl⟩:=AL hx
  rw [S.trE] at a ⊢
  rw [gS] at a
  rw [S.sizeE]
  by_cases b:(i:Int)∈l7 r.keep.edges m.m.edges h.graph.edges.length
  .obtain ⟨p,d,c,_⟩:=S.srtE.t_in b
   omega
  .rw [S.srtE.t_out aD b];omega
theorem Pu {l:List Int}{n N:Nat}(hl:l.length=n)(hr:∀ x∈l,0<=x/\x<n)(hd:l.Nodup){tr:List Int}(ht:∀ x∈tr,x<n):∀ x∈e8 tr (iY l),x<n:=λx hx=>by
 unfold e8 at hx
 obtain ⟨y,hy,rfl⟩:=bB.1 hx
 split
 .exact (Cg hl hr hd (by assumption) (ht y hy)).1.2
 .exact ht y hy
theorem Back.isoOk (B:Back t r h m g m0 m'):IsoOk (xS (bG t r h m) (w5 m0)) (bG t (d8 t (bG t r h m)) g m') where
 fn:=by
  have b:=B.K'.nn
  have a:=B.K'.ne
  exact ⟨by show (cT t _ g m').graph.nodes.length<=_;show (bZ t _ g m').graph.nodes.length<=_;omega,by show (bZ t _ g m').graph.edges.length<=_;omega⟩
 ft:=by
  constructor
  .show ∀ x∈e8 (cO r h m).nodes (iY m0.nodes),x<(cO _ g m').nodes.length
   rw [B.K'.S.trN,gS]
   exact Pu (N:=0) B.I.nl (by rw [B.I.nn];exact B.I.ni) B.I.nd (by rw [B.I.nn];exact B.K.S.t_lt.1)
  .show ∀ x∈e8 (cO r h m).edges (iY m0.edges),x<(cO _ g m').edges.length
   rw [B.K'.S.trE,gS]
   exact Pu (N:=0) B.I.el (by rw [B.I.en];exact B.I.ei) B.I.ed (by rw [B.I.en];exact B.K.S.t_lt.2)
 fu:=B.K'.S.t_lt
 fc:=⟨B.K'.S.c_rangeN,B.K'.S.c_rangeE⟩
 fm:=by
  constructor
  .show (eY _ g m').nodes.length<=m.m.nodes.length
   rw [B.K'.S.coN,iU,B.left_len.2,B.K.S.hm.len];exact bC _
  .show (eY _ g m').edges.length<=m.m.edges.length
   rw [B.K'.S.coE,iU,B.K.S.hm.elen];exact bC _
theorem Back.backOk (B:Back t r h m g m0 m'):BackOk (bG t r h m) (bG t (d8 t (bG t r h m)) g m') m0 where
 fn:=B.isoOk.fn
 fi:=by
  constructor
  .show (cO _ g m').nodes.length<=m0.nodes.length
   rw [B.K'.S.trN,gS,B.I.nl];exact bC _
  .show (cO _ g m').edges.length<=m0.edges.length
   rw [B.K'.S.trE,gS,B.I.el];exact bC _
 fu:=B.isoOk.fu
 fc:=B.isoOk.fc
 fm:=B.isoOk.fm
theorem Back.same (B:Back t r h m g m0 m'):sR (bG t r h m) (bG t (d8 t (bG t r h m)) g m') m0=Cf (xS (bG t r h m) (w5 m0)) (bG t (d8 t (bG t r h m)) g m'):=by
 have a:=B.K'.S.sizeN
 have c:=B.K'.S.sizeE
 rw [B.left_len.2] at a
 have e:=B.undN.same a
 have d:=B.undE.same c
 have b:=B.K'.S.coN
 rw [B.left_len.2] at b
 have f:(⟨(sR (bG t r h m) (bG t (d8 t (bG t r h m)) g m') m0).nodes,(sR (bG t r h m) (bG t (d8 t (bG t r h m)) g m') m0).edges⟩:Part)=⟨(Cf (xS (bG t r h m) (w5 m0)) (bG t (d8 t (bG t r h m)) g m')).nodes,(Cf (xS (bG t r h m) (w5 m0)) (bG t (d8 t (bG t r h m)) g m')).edges⟩:=by
  congr 1
  .show Bo _ m0.nodes (cO _ g m').nodes (cO r h m).nodes (eY _ g m').nodes m.m.nodes r.keep.nodes=wJ (e8 (cO r h m).nodes (iY m0.nodes)) (cO _ g m').nodes (eY _ g m').nodes m.m.nodes _
   rw [B.K.S.trN,B.K'.S.trN,b];exact e
  .show Bo _ m0.edges (cO _ g m').edges (cO r h m).edges (eY _ g m').edges m.m.edges r.keep.edges=wJ (e8 (cO r h m).edges (iY m0.edges)) (cO _ g m').edges (eY _ g m').edges m.m.edges _
   rw [B.K.S.trE,B.K'.S.trE,B.K'.S.coE];exact d
 exact f
theorem Qq (K:StepOk t r h m)(hr:r.ok)(h0:nT t (d8 t (bG t r h m)) (cT t r h m) ⟨eY r h m,[]⟩=0):Back t r h m (cT t r h m) (o8 (cT t r h m).graph) ⟨eY r h m,[]⟩ where
 K:=K
 I:=Jg (sM K.after)
 bn:=by
  show (eY r h m).nodes=_
  refine (Ca λx hx=>?_).symm
  exact KD (K.S.c_rangeN x hx).1 (K.S.c_rangeN x hx).2
 be:=by
  show (eY r h m).edges=_
  refine (Ca λx hx=>?_).symm
  exact KD (K.S.c_rangeE x hx).1 (K.S.c_rangeE x hx).2
 K':=uS (xV hr (K.undOk hr)) h0
theorem UJ (K:StepOk t r h m):xS (bG t r h m) (w5 (o8 (cT t r h m).graph))=bG t r h m:=by
 have b:e8 (cO r h m).nodes (iY (iW (cT t r h m).graph.nodes.length))=(cO r h m).nodes:=LB K.S.t_lt.1
 have a:e8 (cO r h m).edges (iY (iW (cT t r h m).graph.edges.length))=(cO r h m).edges:=LB K.S.t_lt.2
 show (⟨r,m,h,cT t r h m,⟨e8 (cO r h m).nodes _,e8 (cO r h m).edges _⟩,eY r h m⟩:Stp26)=⟨r,m,h,cT t r h m,cO r h m,eY r h m⟩
 rw [show (w5 (o8 (cT t r h m).graph)).nodes=iY (iW (cT t r h m).graph.nodes.length) from rfl,show (w5 (o8 (cT t r h m).graph)).edges=iY (iW (cT t r h m).graph.edges.length) from rfl,b,a]
end
def Ho (s:Stp26):Mat:=⟨s.comatch,[]⟩
def RQ (t:Types)(s:Stp26):Int:=if Ax t s≠0 then Ax t s else nT t (oX t s) s.after (Ho s)
def NP (t:Types)(s:Stp26):Stp26:=if RQ t s=0 then fU t (oX t s) s.after (Ho s) else kJ
def S8 (t:Types)(s:Stp26):Part:=if RQ t s=0 then Cf s (fU t (oX t s) s.after (Ho s)) else ⟨[],[]⟩
theorem J5 {t:Types}{s:Stp26}(b:s.rule.ok)(h:Ax t s=0):Aq t s=true/\oX t s=d8 t s/\(oX t s).ok:=by
 unfold Ax at h
 split at h
 .contradiction
 .rename_i h1
  have a:AX t s=0:=by simpa using h1
  have c:Aq t s=true:=by
   unfold AX at a
   split at a
   .contradiction
   .split at a
    .assumption
    .cases a
  unfold pP at h
  split at h
  .cases h
  .rename_i h2
   have d:oX t s=d8 t s:=by unfold oX tB;rw [if_neg h1,if_neg h2]
   exact ⟨c,d,by rw [d];exact xV b (q8 b c).2.2⟩
theorem Lp {t:Types}{s:Stp26}(b:s=bG t s.rule s.before s.mat)(K:StepOk t s.rule s.before s.mat):r8 s (o8 s.after.graph)=Ho s:=by
 have a:∀ {l:List Int} {n:Nat},(∀ x∈l,0<=x/\x<n)->l.map (idx (iW n))=l:=λ {l n} g=>Ca λx f=>by
  have c:=g x f
  have:=OQ (EY n) (q:=x.toNat) (by rw [vC];omega)
  rw [show ((x.toNat:Nat):Int)=x by omega,wK c.1 c.2] at this
  exact this
 have e:=K.S.c_rangeN
 have d:=K.S.c_rangeE
 have i:s.comatch=eY s.rule s.before s.mat:=congrArg Stp26.comatch b
 have h:s.after=cT t s.rule s.before s.mat:=congrArg Stp26.after b
 rw [<- i,<- h] at e d
 show (⟨⟨s.comatch.nodes.map (idx (iW s.after.graph.nodes.length)),s.comatch.edges.map (idx (iW s.after.graph.edges.length))⟩,[]⟩:Mat)=⟨⟨s.comatch.nodes,s.comatch.edges⟩,[]⟩
 rw [a e,a d]
theorem Tk {t:Types}{s:Stp26}(d:s.rule.ok)(h:RQ t s=0):∃ r h m,s=bG t r h m/\NP t s=bG t (d8 t s) s.after (Ho s)/\S8 t s=Cf s (bG t (d8 t s) s.after (Ho s))/\Back t r h m s.after (o8 s.after.graph) (Ho s):=by
 have c:NP t s=fU t (oX t s) s.after (Ho s)/\S8 t s=Cf s (fU t (oX t s) s.after (Ho s)):=⟨by unfold NP;rw [if_pos h],by unfold S8;rw [if_pos h]⟩
 unfold RQ at h
 split at h
 .contradiction
 .rename_i h1
  obtain ⟨f,i,_⟩:=J5 d (bX h1)
  rw [i] at h c
  have g:fU t (d8 t s) s.after (Ho s)=bG t (d8 t s) s.after (Ho s):=by unfold fU;rw [if_pos h]
  rw [g] at c
  obtain ⟨e,K,_⟩:=q8 d f
  obtain ⟨r,b,m,a⟩:∃ r b m,s=bG t r b m:=⟨_,_,_,e⟩
  refine ⟨r,b,m,a,c.1,c.2,?_⟩
  subst a
  exact Qq K d h
theorem RP {t:Types}{s:Stp26}(g:s.rule.ok)(h:RQ t s=0):HIso (NP t s).after s.before (S8 t s)/\IsoOk s (NP t s)/\BackOk s (NP t s) (o8 s.after.graph)/\sR s (NP t s) (o8 s.after.graph)=S8 t s/\r8 s (o8 s.after.graph)=Ho s:=by
 obtain ⟨r,b,m,f,o,n,B⟩:=Tk g h
 rw [o,n]
 subst f
 have a:xS (bG t r b m) (w5 (o8 (bG t r b m).after.graph))=bG t r b m:=UJ B.K
 have k:=B.iso
 have d:=B.isoOk
 have j:=B.backOk
 have i:=B.same
 have e:r8 (bG t r b m) (o8 (cT t r b m).graph)=Ho (bG t r b m):=Lp rfl B.K
 have c:sR (bG t r b m) (bG t (d8 t (bG t r b m)) (cT t r b m) (Ho (bG t r b m))) (o8 (cT t r b m).graph)=Cf (bG t r b m) (bG t (d8 t (bG t r b m)) (cT t r b m) (Ho (bG t r b m))):=by
  have:=i
  rw [a] at this;exact this
 rw [a] at d
 refine ⟨?_,d,j,c,e⟩
 have l:Cf (bG t r b m) (bG t (d8 t (bG t r b m)) (cT t r b m) (Ho (bG t r b m)))=Cf (xS (bG t r b m) (w5 (o8 (bG t r b m).after.graph))) (bG t (d8 t (bG t r b m)) (cT t r b m) (Ho (bG t r b m))):=by rw [a]
 show HIso (cT t (d8 t (bG t r b m)) (cT t r b m) (Ho (bG t r b m))) b (Cf (bG t r b m) (bG t (d8 t (bG t r b m)) (cT t r b m) (Ho (bG t r b m))))
 rw [l]
 exact k
theorem Kb (t:Types)(F:t.ok)(s:Stp26)(w:s.rule.ok):Pure Tryz.prog 30 [t.d,.agg s.c] (.tup [.agg (NP t s).c,(S8 t s).d,dI (RQ t s)]):=by
 have D:=AB t F s w
 obtain ⟨R,B⟩:=cW (oX t s)
 obtain ⟨k,j⟩:∃ e,e=Ax t s:=⟨_,rfl⟩
 obtain ⟨v,r⟩:=cW (fU t (oX t s) s.after (Ho s))
 obtain ⟨i,u⟩:∃ e,e=nT t (oX t s) s.after (Ho s):=⟨_,rfl⟩
 obtain ⟨p,z⟩:=cW (Cf s v)
 have x:RQ t s=if k≠0 then k else i:=by unfold RQ;rw [<- j,<- u]
 have l:k=0->(s.after.graph.nodes.length<=100000/\s.after.graph.edges.length<=100000)/\(s.comatch.nodes.length<=1000/\s.comatch.edges.length<=1000)/\r8 s (o8 s.after.graph)=Ho s:=λm=>by
  obtain ⟨O,P,S⟩:=J5 w (j ▸ m)
  obtain ⟨G,K,A⟩:=q8 w O
  have o:=A.sz
  have U:=A.c1
  refine ⟨?_,⟨aD,A.c3⟩,?_⟩
  .rw [G]
   have g:=K.nn
   have f:=K.ne
   exact ⟨by show (bZ t _ _ _).graph.nodes.length<=_;omega,by show (bZ t _ _ _).graph.edges.length<=_;omega⟩
  .exact Lp G K
 have C:k=0->Pure Tryz.prog 90 [t.d,.agg s.c,R.d,s.after.d,(o8 s.after.graph).d] (.tup [.agg (if i=0 then v else kJ).c,(if i=0 then p else ⟨[],[]⟩:Part).d,dI i]):=λm=>by
  have N:=(J5 w (j ▸ m)).2.2
  obtain ⟨_,⟨M,L⟩,E⟩:=l m
  have o:=BL t F s (oX t s) N s.after (o8 s.after.graph) M L (v:=v) (er:=i) (by rw [E];exact r) (by rw [E];exact u) (λg=>by
   have f:RQ t s=0:=by rw [x,if_neg aD,g]
   have n:=(RP w f).2.2.1
   have e:NP t s=v:=by unfold NP;rw [if_pos f,r]
   rw [e] at n;exact n)
  have T:i=0->sR s v (o8 s.after.graph)=p:=λg=>by
   have f:RQ t s=0:=by rw [x,if_neg aD,g]
   have n:=(RP w f).2.2.2.1
   have e:NP t s=v:=by unfold NP;rw [if_pos f,r]
   rw [e] at n
   rw [n,z];unfold S8;rw [if_pos f,r]
  rw [<- B] at o
  by_cases g:i=0
  .rw [if_pos g,if_pos g] at o ⊢
   rw [T g] at o;exact o
  .rw [if_neg g,if_neg g] at o ⊢;exact o
 have J:k=0->Pure Tryz.prog 91 [s.after.graph.d] (o8 s.after.graph).d:=λm=>uZ s.after.graph (l m).1.1 (l m).1.2
 have H:NP t s=if k=0/\i=0 then v else kJ:=by
  unfold NP;rw [x,<- r]
  by_cases a:k=0<;>by_cases b:i=0<;>simp [a,b]
 have y:S8 t s=if k=0/\i=0 then p else ⟨[],[]⟩:=by
  unfold S8;rw [x,<- r,<- z]
  by_cases a:k=0<;>by_cases b:i=0<;>simp [a,b]
 rw [<- B,<- j] at D
 rw [H,y,x]
 obtain ⟨q,n⟩:=cW (o8 s.after.graph)
 rw [<- n] at C J
 simp only [Stp26.c,Rule.c,Mat.c,Host.c,cX,cZ] at D C
 clear x H y z u r j B l n
 refine Tz.pK ⟨λt=>t==4||t==5||t==7,λ_=>[]⟩ Tryz.func30 rfl (λQ I=>?_)
 have Y:=wa @Stp26.c.eq_1 (wa @Rule.c.eq_1 (wa @Mat.c.eq_1 @Host.c.eq_1))
 refine pM (h:=aB (D) wl ?_)
 refine pM (h:=wq (λf=>?_) λf=>?_)
 .exact pM (h:=I _ _ (by simp [go_sem,f,kJ,jN,nZ,iO,Part.d,Part.c,Stp26.c,Rule.c,Mat.c,Host.c,Cond.kind,Cond.kids,Cond.map,Cond.pattern,dLI,dI]))
 .refine pM (h:=aI (J (bX f)) wl ?_)
  refine pM (h:=aI (C (bX f)) wl ?_)
  refine pM (h:=?_)
  have m:k=0:=by simpa using f
  exact I _ _ (by by_cases g:i=0<;>simp [go_sem,m,g,kJ,jN,nZ,iO,Part.d,Part.c,Stp26.c,Rule.c,Mat.c,Host.c,Cond.kind,Cond.kids,Cond.map,Cond.pattern,dLI,dI])
def VK:Rule:=⟨⟨#[99,108,111,115,101]⟩,⟨⟨[3,1],[⟨0,0,1⟩]⟩,[],0,[]⟩,⟨⟨[3],[]⟩,[],0,[]⟩,⟨[0],[]⟩,⟨[0],[]⟩,true,.mk 1 [] ⟨[],[]⟩ nZ⟩
def shH:Host:=⟨⟨[3,1,1],[⟨0,0,1⟩,⟨0,0,2⟩]⟩,[[],[10],[5]]⟩
def Yi:Mat:=⟨⟨[0,2],[1]⟩,[]⟩
def clS:Stp26:=fU exT VK shH Yi
theorem Qc:fewR VK=true:=by decide +kernel
theorem cl1:nT exT VK shH Yi=0:=by decide +kernel
theorem cl2:Ax exT clS=0:=by decide +kernel
theorem cl3:(oX exT clS).right.slots=[⟨1,0,⟨-1,5⟩⟩]:=by decide +kernel
theorem cl4:RQ exT clS=0:=by decide +kernel
theorem cl5:(NP exT clS).after=shH:=by decide +kernel
theorem cl6:S8 exT clS=⟨[0,1,2],[0,1]⟩:=by decide +kernel
theorem Cd:Pure Tryz.prog 86 [] shH.d:=by
 refine uF (by first|rfl|(simp [go_sem];done)) (λQ a=>(aJ (cfg:=⟨λt=>t==0,λ_=>[]⟩) Tz.mixed Tryz.func86 rfl rfl (aF rfl) (by kernel_rfl) ?_))
 have Y:=trivial
 refine pM (h:=?_)
 exact a _ _ (by simp [go_sem,shH,Host.d,Host.c,Edge.c,cL,dLI,cI,dI])
theorem HX:Pure Tryz.prog 84 [] (.tup [.agg clS.c,dI 0]):=by
 have a:=Ft exT (Cn P3) VK (KP Qc) shH Yi
 rw [cl1] at a
 have b:fU exT VK shH Yi=clS:=rfl
 rw [b] at a
 generalize clS=v at *
 refine Tz.pK ⟨λt=>t==0||t==2,λr=>match r with|2=>[(0,3),(1,3),(2,3),(0,4),(1,4),(2,4),(3,4)]|_=>[]⟩ Tryz.func84 rfl (λQ e=>?_)
 have Y:=wa @Stp26.c.eq_1 (wa @Rule.c.eq_1 (wa @Mat.c.eq_1 @Host.c.eq_1))
 refine pM (h:=aI (AG) wl ?_)
 refine pM (h:=aI (Cd) wl ?_)
 refine pM (h:=aI (a.nzk (by simp [go_sem,IS,D1,VK,shH,Yi,nZ,Rule.d,Rule.c,Types.d,Types.c,Host.d,Host.c,Mat.d,Mat.c,Slot.c,Edge.c,cL,dLI,cI,dI,Cond.kind,Cond.kids,Cond.map,Cond.pattern,l8,i6,eQ])) wl ?_)
 exact pM (h:=e _ _ wy)
theorem Me (a:Host):Pure Tryz.prog 42 [a.d,a.d] (.bool true):=by
 have:=tJ a a (λi _ _=>Bj _)
 rwa [show decide (a=a)=true by simp] at this
theorem D3:Pure Tryz.prog 27 [] (.bool true):=by
 have g:=Cn P3
 have i:clS.rule.ok:=by
  have e:clS.rule=VK:=by unfold clS fU;rw [if_pos cl1];rfl
  rw [e];exact KP Qc
 have f:=Kd exT g clS i
 have b:=Kb exT g clS i
 have k:=HX
 rw [cl2] at f
 rw [cl4,cl6] at b
 have m:=cl3
 have j:=cl5
 have o:=Bd [⟨1,0,⟨-1,5⟩⟩] [⟨1,0,⟨-1,5⟩⟩]
 have n:=Me shH
 generalize clS=s at *
 generalize oX exT s=R at *
 generalize NP exT s=u at *
 simp only [Stp26.c,Rule.c,Mat.c,Host.c,cX,cZ] at f b k
 refine Tz.pK ⟨λt=>t==1||t==2||t==4||t==6||t==7,λr=>match r with|5=>[(11,16),(12,16),(13,16),(26,27),(26,28),(27,28)]|_=>[]⟩ Tryz.func27 rfl (λQ l=>?_)
 have Y:=wa @Stp26.c.eq_1 (wa @Rule.c.eq_1 (wa @Mat.c.eq_1 (wa @Host.c.eq_1 (wa m j))))
 refine pM (h:=aB (AG) wl ?_)
 refine pM (h:=aB (k) wl ?_)
 refine pM (h:=aB (f) wl ?_)
 refine pM (h:=aB (b) wl ?_)
 refine jM (h:=dL (λa=>(by simpa [Slot.c,Term.c,dI] using o)) (λa=>wl) ?_)
 refine jM (h:=dL (λa=>Cd) (λa=>wl) ?_)
 refine jM (h:=dL (λa=>(by simpa [Host.d,Host.c,j,dLI] using n)) (λa=>wl) ?_)
 refine jM (h:=dL (λa=>DU ⟨[0,1,2],[0,1]⟩) (λa=>wl) ?_)
 exact jM (h:=l _ _ wy)
theorem Ra {t:Types}{s:Stp26}(h:yY t s=true):t.ok/\s.rule.ok:=by
 unfold yY at h
 simp only [aQ] at h
 exact OL h.1.1.1.1
theorem T1 {t:Types}{s:Stp26}{B:Nat}(o:B<=1000000000000000)(d:s.bnd B)(h:s.rule.ok):CmpA t s:=by
 have c:∀ {l m:List (List Int)},(∀ v∈l,v.length<=1000000000000000/\∀ x∈v,JI x)->(∀ v∈m,v.length<=B/\∀ x∈v,JI x)->∀ i (h1:i<l.length) (h2:i<m.length),zO l[i] m[i]:=λhl hm i h1 h2=>by
  have n:=hl _ (aC h1)
  have k:=hm _ (aC h2)
  exact No n.2 k.2 aD aD
 have e:(∀ v∈(fU t s.rule s.before s.mat).before.values,v.length<=1000000000000000/\∀ x∈v,JI x)/\∀ v∈(fU t s.rule s.before s.mat).after.values,v.length<=1000000000000000/\∀ x∈v,JI x:=by
  unfold fU
  split
  .rename_i j
   have K:=uS h j
   have row:∀ {g:Host},iG t g=0->∀ v∈g.values,v.length<=1000000000000000/\∀ x∈v,JI x:=λhg v hv=>by
    have q:=(sM hg).row v hv
    exact ⟨aD,λz hz=>by have:=q.2 z hz;unfold JI;omega⟩
   exact ⟨λv hv=>⟨by have:=(d.b v hv).1;omega,(d.b v hv).2⟩,row K.after⟩
  .exact ⟨λv hv=>by simp [kJ] at hv,λv hv=>by simp [kJ] at hv⟩
 exact ⟨c e.1 d.b,c e.2 d.a⟩
def qG (l:List Stp26)(i:Nat):Stp26:=l[i]?.getD kJ
def yA (t:Types)(l:List Stp26)(i:Nat):Int:=if Aq t (qG l i)=false then 1 else if 0<i/\(qG l (i - 1)).after≠(qG l i).before then 11 else 0
def yW (t:Types)(l:List Stp26):Int :=
 if (b9 t).2≠0 then (b9 t).2 else if l.length=0 then 7 else if 30<l.length then 3 else bQ (yA t l) 0 l.length
def s6 (t:Types)(s:Stp26)(g:Host)(m:Part):Stp26:=fU t (d8 t s) g (r8 s m)
def M7 (t:Types)(s:Stp26)(g:Host)(m:Part):Int:=nT t (d8 t s) g (r8 s m)
def Bv (t:Types)(l:List Stp26):Nat->Host->Part->List Stp26->List Stp26 × Part × Int
 | 0,_,m,out=>(out,m,0)
 | c+1,g,m,out=>if pP t (qG l c)≠0 then ([],⟨[],[]⟩,pP t (qG l c)) else if M7 t (qG l c) g m≠0 then ([],⟨[],[]⟩,M7 t (qG l c) g m)
  else Bv t l c (s6 t (qG l c) g m).after (sR (qG l c) (s6 t (qG l c) g m) m) (out++[s6 t (qG l c) g m])
def tQ (l:List Stp26):Host:=(qG l (l.length - 1)).after
def gZ (t:Types)(l:List Stp26):List Stp26 × Part × Int:=if yW t l≠0 then ([],⟨[],[]⟩,yW t l) else Bv t l l.length (tQ l) (o8 (tQ l).graph) []
structure Chain (t:Types) (l:List Stp26):Prop where
 vf:(b9 t).2=0
 pos:0<l.length
 few:l.length<=30
 chk:∀ i,i<l.length->Aq t (qG l i)=true
 con:∀ i,0<i->i<l.length->(qG l (i - 1)).after=(qG l i).before
theorem Nx {t:Types}{l:List Stp26}(h:yW t l=0):Chain t l:=by
 unfold yW at h
 split at h
 .contradiction
 .rename_i h1
  split at h
  .cases h
  .rename_i h2
   split at h
   .cases h
   .rename_i h3
    have b:=λ(i:Nat) (a:i<l.length)=>eP l.length 0 h i (dY _) aD
    refine ⟨by simpa using h1,aD,aD,λi a=>?_,λi d a=>?_⟩
    .have:=b i a
     unfold yA at this
     split at this
     .cases this
     .rename_i h4;simpa using h4
    .have:=b i a
     unfold yA at this
     split at this
     .cases this
     .split at this
      .cases this
      .rename_i h4
       refine bA λc=>h4 ⟨d,c⟩
theorem KH {l:List Int}{n:Nat}(c:l.length=n)(b:∀ x∈l,0<=x/\x<n)(a:l.Nodup){y:Int}(e:0<=y)(h:y<n):idx l y=iA (iY l) y:=by
 obtain ⟨f,d⟩:=Cg c b a e h
 have:=OQ a (q:=(iA (iY l) y).toNat) aD
 rw [show (((iA (iY l) y).toNat:Nat):Int)=iA (iY l) y by omega,d] at this
 exact this
theorem IF {t:Types}{s:Stp26}{g:Host}{m:Part}(c:s.rule.ok)(q:Aq t s=true)(I:HIso g s.after m):r8 s m=⟨⟨e8 s.comatch.nodes (iY m.nodes),e8 s.comatch.edges (iY m.edges)⟩,[]⟩ /\
  (m.nodes.length=s.after.graph.nodes.length/\m.edges.length=s.after.graph.edges.length)/\((∀ x∈s.comatch.nodes,0<=x/\x<s.after.graph.nodes.length)/\∀ x∈s.comatch.edges,0<=x/\x<s.after.graph.edges.length) /\
  (∀ x∈s.track.nodes,x<s.after.graph.nodes.length)/\∀ x∈s.track.edges,x<s.after.graph.edges.length:=by
 obtain ⟨b,K,_⟩:=q8 c q
 have f:=K.S.c_rangeN
 have e:=K.S.c_rangeE
 have d:=K.S.t_lt
 have u:s.comatch=eY s.rule s.before s.mat:=congrArg Stp26.comatch b
 have h:s.after=cT t s.rule s.before s.mat:=congrArg Stp26.after b
 have r:s.track=cO s.rule s.before s.mat:=congrArg Stp26.track b
 rw [<- u,<- h] at f e
 rw [<- h,<- r] at d
 have a:∀ {l p:List Int} {n:Nat},l.length=n->(∀ x∈l,0<=x/\x<n)->l.Nodup->(∀ x∈p,0<=x/\x<n)->p.map (idx l)=e8 p (iY l):=λ {l p n} k c o j=>by
  unfold e8
  refine bU λx i=>?_
  have:=j x i
  rw [if_pos this.1];exact KH k c o this.1 this.2
 refine ⟨?_,⟨by rw [I.nl,I.nn],by rw [I.el,I.en]⟩,⟨f,e⟩,d.1,d.2⟩
 unfold r8
 rw [a (I.nl.trans I.nn) I.ni I.nd f,a (I.el.trans I.en) I.ei I.ed e]
theorem QB {t:Types}{s:Stp26}(b:s.rule.ok)(c:Aq t s=true):(s.after.graph.nodes.length<=1000/\s.after.graph.edges.length<=1000)/\s.track.nodes.length<=1000/\s.track.edges.length<=1000:=by
 obtain ⟨a,K,_⟩:=q8 b c
 have f:=K.nn
 have e:=K.ne
 have d:=bS K.S.ho.gg
 rw [a]
 refine ⟨⟨by show (bZ t _ _ _).graph.nodes.length<=_;omega,by show (bZ t _ _ _).graph.edges.length<=_;omega⟩,?_,?_⟩
 .show (cO _ _ _).nodes.length<=_
  rw [K.S.trN,gS];omega
 .show (cO _ _ _).edges.length<=_
  rw [K.S.trE,gS];omega
theorem FN {t:Types}{s:Stp26}{g:Host}{m:Part}(f:s.rule.ok)(i:Aq t s=true)(I:HIso g s.after m)(h:M7 t s g m=0) :
  BackOk s (s6 t s g m) m/\IsoOk (xS s (w5 m)) (s6 t s g m)/\Cf (xS s (w5 m)) (s6 t s g m)=sR s (s6 t s g m) m/\HIso (s6 t s g m).after s.before (sR s (s6 t s g m) m):=by
 obtain ⟨n,_,a,_,_⟩:=IF f i I
 obtain ⟨j,K,k⟩:=q8 f i
 have e:s6 t s g m=bG t (d8 t s) g (r8 s m):=by unfold s6 fU;unfold M7 at h;rw [if_pos h]
 rw [e]
 have l:=uS (xV f k) h
 obtain ⟨r,b,x,d⟩:∃ r b x,s=bG t r b x:=⟨_,_,_,j⟩
 subst d
 have B:Back t r b x g m (r8 (bG t r b x) m):=by
  refine ⟨K,I,?_,?_,l⟩
  .show (eY r b x).nodes.map (idx m.nodes)=_
   exact bU λy c=>KH (I.nl.trans I.nn) I.ni I.nd (a.1 y c).1 (a.1 y c).2
  .show (eY r b x).edges.map (idx m.edges)=_
   exact bU λy c=>KH (I.el.trans I.en) I.ei I.ed (a.2 y c).1 (a.2 y c).2
 refine ⟨B.backOk,B.isoOk,B.same.symm,?_⟩
 rw [B.same]
 exact B.iso
def Ub (l:List Stp26)(c:Nat)(g:Host)(m:Part):Prop:=c=0\/HIso g (qG l (c - 1)).after m
theorem Jd {t:Types}{l:List Stp26}(b:Chain t l)(d:∀ s∈l,s.rule.ok):Ub l l.length (tQ l) (o8 (tQ l).graph):=by
 right
 have h:=b.pos
 have f:=b.chk (l.length - 1) aD
 have e:qG l (l.length - 1)∈l:=by unfold qG;rw [aA aD];exact aC _
 obtain ⟨c,K,_⟩:=q8 (d _ e) f
 have a:=sM K.after
 have g:(qG l (l.length - 1)).after=cT t (qG l (l.length - 1)).rule (qG l (l.length - 1)).before (qG l (l.length - 1)).mat:=congrArg Stp26.after c
 rw [<- g] at a
 exact Jg a
theorem MP {t:Types}{l:List Stp26}(b:Chain t l){c:Nat}(a:c<l.length){g:Host}{m:Part}(I:HIso g (qG l c).before m):Ub l c g m:=by
 by_cases h:c=0
 .exact .inl h
 .right
  rw [b.con c aD a];exact I
end Go.Abs
end

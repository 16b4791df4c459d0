/- The rules of drafts; the host of a draft. · Few and Light of -/
import Derived.Test.YthalajhajpjjeaaGreatZhF
import Derived.Test.YthalajhajpjjeaaGreatZhA
import Derived.Test.YthalajhajpjjeaaGreatZhM
import Derived.Maps.RangeWalk
import Derived.DeepKeys4
set_option linter.unusedVariables false
set_option linter.unusedSimpArgs false
section
set_option maxRecDepth 100000
set_option maxHeartbeats 4000000
open Go Go.Proofs
namespace Go.Abs
structure Host where
 graph:Graph
 values:List (List Int)
def Host.c (h:Host):List D:=[dLI h.graph.nodes,.list (h.graph.edges.map Edge.c),.list (h.values.map cL)]
def Host.d (h:Host):D:=.agg h.c
@[go_sem] theorem WI (l:List (List Int)):D.clLL (l.map cL)=true:=c8 _ (λa=>by simp [cL,D.clL,oF]) l
@[go_sem] theorem Host.cl (h:Host):h.d.cl=true:=by simp [Host.d,Host.c,D.cl,D.clL,oF,WI,vB]
structure Dr15 where
 nodes:List B2
 edges:List B3
def Dr15.c (d:Dr15):List D:=[.list (d.nodes.map cP),.list (d.edges.map cT3)]
@[go_sem] theorem Dr15.cl (d:Dr15):D.clL d.c=true:=by simp [Dr15.c,D.clL,D.cl,TE,Cx]
def Lo (l:List Attr)(b:UInt8)(k:Nat):Int:=match l[k]? with|some a=>a.low+((b.toNat:Int)+7 * (k:Int)).tmod (a.high - a.low+1)|none=>0
def mX (l:List Attr)(b:UInt8)(k:Nat):List Int:=(List.range k).map (Lo l b)
def A7 (t:Types)(x:B2):Int:=sZ (iX t) x.1
def LW (t:Types)(x:B2):List Int:=mX (bM t (A7 t x)) x.2 (bM t (A7 t x)).length
def Ar (t:Types)(ds:List B2)(k:Nat):List Int:=(List.range k).map λi=>A7 t (i5 ds i)
def An (t:Types)(ds:List B2)(k:Nat):List (List Int):=(List.range k).map λi=>LW t (i5 ds i)
def A4 (t:Types)(d:Dr15):Host :=
 ⟨⟨Ar t d.nodes (if (iX t).length=0 then 0 else min d.nodes.length 8),
  M9 t (Ar t d.nodes (if (iX t).length=0 then 0 else min d.nodes.length 8)) [] d.edges (if (Ar t d.nodes (if (iX t).length=0 then 0 else min d.nodes.length 8)).length=0\/t.edges.length=0 then 0 else min d.edges.length 10)⟩,
  An t d.nodes (if (iX t).length=0 then 0 else min d.nodes.length 8)⟩
theorem Ln (l:List Attr)(b:UInt8)(k:Nat):mX l b (k+1)=mX l b k++[Lo l b k]:=by simp [mX,bK]
theorem Fj (l:List Attr)(b:UInt8)(k:Nat):(mX l b k).length=k:=by simp [mX]
theorem Rn (t:Types)(ds:List B2)(k:Nat):Ar t ds (k+1)=Ar t ds k++[A7 t (i5 ds k)]:=by simp [Ar,bK]
theorem MC (t:Types)(ds:List B2)(k:Nat):(Ar t ds k).length=k:=by simp [Ar]
theorem QL (t:Types)(ds:List B2)(k:Nat):An t ds (k+1)=An t ds k++[LW t (i5 ds k)]:=by simp [An,bK]
theorem Ll (t:Types)(ds:List B2)(k:Nat):(An t ds k).length=k:=by simp [An]
theorem OK (t:Types)(ht:t.fine)(d:Dr15):Pure Tryz.prog 76 [t.d,.agg d.c] (A4 t d).d:=by
 have g9:=ht.ok.fewN
 have h0:=ht.ok.fewE
 obtain ⟨C,hC⟩:=eX (iX t)
 refine Tz.pK ⟨λt=>t==4||t==5||t==15||t==53||t==11,λr=>match r with|13=>[(0,4),(1,4),(2,4),(4,6),(5,6),(4,7),(5,7),(0,9),(1,9),(2,9),(4,9),(5,9),(6,9),(7,9),(9,11),(10,11),(9,12),(10,12)]|18=>[(0,30),(1,30),(3,30),(4,30),(5,30),(7,30),(8,30),(9,30),(11,30),(12,30),(14,30),(15,30),(16,30),(20,30),(21,30),(23,30),(24,30),(25,30)]|_=>[]⟩ Tryz.func76 rfl (λQ hQ=>?_)
 try simp [go_sem,seval,Dr15.c]
 refine aB ((by have hq:=FX t aD;rw [hC] at hq;exact hq)) ((by first|rfl|(simp [go_sem,<- List.map_take,<- List.map_drop,Dr15.c];done))) ?_
 try simp [go_sem,seval,Dr15.c]
 obtain ⟨I0,a2⟩:∃ I0:Nat->dA->AHeap->Prop,∀ (i:Nat) (e:dA) (H:AHeap),I0 i e H↔((e 2=.adr t.c)/\(e 3=.adr d.c)/\(e 4=.ptr 0 1 0 0)/\(e 5=.ptr 1 1 0 0)/\(e 6=dLI C)/\(e 7=dI i)/\(H.get 0=some ⟨44,3,[[.nil,.nil,.nil]],false⟩)/\(0<H.next)/\(H.get 1=some ⟨44,3,[[.own 2 i,.nil,.own 3 i]],false⟩)/\(1<H.next)/\(H.get 2=some ⟨3,1,(Ar t d.nodes i).map cI,false⟩)/\(2<H.next)/\(H.get 3=some ⟨26,1,(An t d.nodes i).map cL,false⟩)/\(3<H.next)/\(i<=8)/\(i<=d.nodes.length)/\(C.length=0->i=0)/\((Ar t d.nodes i).length=i)/\((An t d.nodes i).length=i)):=⟨λi e H=>_,λ_ _ _=>Iff.rfl⟩
 refine A5 (Ghosts.step (Ghosts.step (Ghosts.refl _) 1 0 0 3 1 _ _ (rfl) rfl rfl rfl) 1 0 2 26 1 _ _ ((by simp [go_sem,Dr15.c]:AHeap.get _ _=some ⟨44,3,[[.own 2 0,.nil,.nil]],false⟩)) rfl rfl rfl) I0 (λi=>8 - i) (0) ((a2 _ _ _).2 ⟨?_,?_,?_,?_,?_,?_,?_,?_,?_,?_,(by rfl),?_,(by rfl),?_,(by first|assumption|omega|(simp [go_sem,Dr15.c];done)|(simp_all;done)),(by first|assumption|omega|(simp [go_sem,Dr15.c];done)|(simp_all;done)),(by intro _;rfl),(by exact MC _ _ _),(by exact Ll _ _ _)⟩) ?_
 iterate 12 (first|omega|(simp [go_sem,seval,Dr15.c]<;>omega))
 intro i e H g1
 obtain ⟨c3,c0,b5,b2,a9,a7,f2,d6,V,d3,e7,d0,e3,c7,hi,g8,hz,b,f⟩:=(a2 _ _ _).1 g1
 have x0:=b8 d6
 have x1:=b8 d3
 have x2:=b8 d0
 have x3:=b8 c7
 have P:=And.intro c3 (And.intro c0 (And.intro b5 (And.intro b2 (And.intro a9 (And.intro a7 (And.intro f2 (And.intro V (And.intro e7 (And.intro e3 (And.intro x0 (And.intro x1 (And.intro x2 x3))))))))))))
 try simp [go_sem,seval,Dr15.c,P,b,f]
 repeat first|intro _|refine ⟨eK,?_⟩
 refine aP (λA=>?_) (λA=>?_)
 .try simp [go_sem] at A
  have n:i<d.nodes.length:=aD
  have d9:0<C.length:=aD
  have h2:¬C=[]:=jN.1 d9
  obtain ⟨x,q⟩:=eX (d.nodes[i])
  have w:i5 d.nodes i=x:=by unfold i5;rw [aA n,<- q];rfl
  have f6:=jW x.1
  have f5:=jW x.2
  have tm:=b7 (aD:0<=(x.1.toNat:Int)) (aD:(0:Int)<C.length)
  obtain ⟨G,f7⟩:=yI d9 x.1
  obtain ⟨kd,g⟩:=eX (C[((x.1.toNat:Int).tmod C.length).toNat])
  have l:A7 t (i5 d.nodes i)=kd:=by unfold A7;rw [w,hC,f7,g]
  have a:(C.length:Int)≠0:=aD
  obtain ⟨I,m⟩:=eX (bM t kd)
  have E:=ht.good kd
  rw [m] at E
  try simp [go_sem,seval,Dr15.c,P,b,f,A,aA n,q,cP,aA G,g,a,l,m]
  repeat first|intro _|refine ⟨eK,?_⟩
  refine aB (sV t ht.ok kd) ((by first|rfl|(simp [go_sem,<- List.map_take,<- List.map_drop,Dr15.c,P,b,f,A,aA n,q,cP,aA G,g,a,l,m];done))) ?_
  try simp [go_sem,seval,Dr15.c,P,b,f,A,aA n,q,cP,aA G,g,a,l,m]
  repeat first|intro _|refine ⟨eK,?_⟩
  obtain ⟨I2,a1⟩:∃ I2:Nat->dA->AHeap->Prop,∀ (k:Nat) (e:dA) (H:AHeap),I2 k e H↔(∃ c:Nat,(e 2=.adr t.c)/\(e 3=.adr d.c)/\(e 4=.ptr 0 1 0 0)/\(e 5=.ptr 1 1 0 0)/\(e 6=dLI C)/\(e 7=dI i)/\(e 8=dI kd)/\(e 9=.list (I.map Attr.c))/\(e 11=.own c k)/\(e 12=dI k)/\(H.get 0=some ⟨44,3,[[.nil,.nil,.nil]],false⟩)/\(0<H.next)/\(H.get 1=some ⟨44,3,[[.own 2 i,.nil,.own 3 i]],false⟩)/\(1<H.next)/\(H.get 2=some ⟨3,1,(Ar t d.nodes i).map cI,false⟩)/\(2<H.next)/\(H.get 3=some ⟨26,1,(An t d.nodes i).map cL,false⟩)/\(3<H.next)/\(H.get c=some ⟨3,1,(mX I x.2 k).map cI,false⟩)/\(c<H.next)/\(k<=I.length)/\(3<c)/\((mX I x.2 k).length=k)):=⟨λk e H=>_,λ_ _ _=>Iff.rfl⟩
  refine oR I2 (λk=>I.length - k) (0) ((a1 _ _ _).2 ⟨(H.next),?_,?_,?_,?_,?_,?_,?_,?_,?_,?_,?_,?_,?_,?_,?_,?_,?_,?_,(by simp [go_sem,Dr15.c,P,b,f,A,aA n,q,cP,aA G,g,a,l,m,mX]),?_,(by first|assumption|omega|(simp [go_sem,Dr15.c,P,b,f,A,aA n,q,cP,aA G,g,a,l,m];done)|(simp_all;done)),aD,(by exact Fj _ _ _)⟩) ?_
  iterate 19 (first|omega|(simp [go_sem,seval,Dr15.c,P,b,f,A,aA n,q,cP,aA G,g,a,l,m]<;>omega))
  intro k e H g0
  obtain ⟨c,c2,b9,b4,b1,a8,a6,a5,a4,Z,Y,f1,d5,e9,d2,e6,c9,e2,c6,e0,c4,hk,hc,o⟩:=(a1 _ _ _).1 g0
  have x0:=b8 d5
  have x1:=b8 d2
  have x2:=b8 c9
  have x3:=b8 c6
  have xc:=b8 c4
  have O:=And.intro c2 (And.intro b9 (And.intro b4 (And.intro b1 (And.intro a8 (And.intro a6 (And.intro a5 (And.intro a4 (And.intro Z (And.intro Y (And.intro f1 (And.intro e9 (And.intro e6 (And.intro e2 (And.intro e0 (And.intro x0 (And.intro x1 (And.intro x2 (And.intro x3 xc))))))))))))))))))
  have D:=And.intro (dG (aD:c≠3)) (And.intro (dG (aD:c≠2)) (And.intro (dG (aD:c≠1)) (And.intro (dG (aD:c≠0)) (And.intro (dG (aD:3≠2)) (And.intro (dG (aD:3≠1)) (And.intro (dG (aD:3≠0)) (And.intro (dG (aD:2≠1)) (And.intro (dG (aD:2≠0)) (dG (aD:1≠0))))))))))
  try simp [go_sem,seval,Dr15.c,b,f,A,aA n,q,cP,aA G,g,a,l,m,O,o,D]
  repeat first|intro _|refine ⟨eK,?_⟩
  refine aP (λu=>?_) (λu=>?_)
  .try simp [go_sem] at u
   have hg:=E.1 _ (aC u)
   unfold Attr.good at hg
   have f8:=E.2
   have tv:=b7 (aD:0<=(x.2.toNat:Int)+7 * (k:Int)) (aD:0<I[k].high - I[k].low+1)
   have d7:Lo I x.2 k=I[k].low+((x.2.toNat:Int)+7 * (k:Int)).tmod (I[k].high - I[k].low+1):=by unfold Lo;rw [aA u]
   have L:I[k].high - I[k].low+1≠0:=aD
   try simp [go_sem,seval,Dr15.c,b,f,A,aA n,q,cP,aA G,g,a,l,m,O,o,D,u,aA u,L]
   repeat first|intro _|refine ⟨eK,?_⟩
   refine dN (k+1) aD ((a1 _ _ _).2 ⟨(c),?_,?_,?_,?_,?_,?_,?_,?_,?_,?_,?_,?_,?_,?_,?_,?_,?_,?_,(by simp [go_sem,Dr15.c,b,f,A,aA n,q,cP,aA G,g,a,l,m,O,o,D,u,aA u,L,Ln,d7]),?_,(by first|assumption|omega|(simp [go_sem,Dr15.c,b,f,A,aA n,q,cP,aA G,g,a,l,m,O,o,D,u,aA u,L];done)|(simp_all<;>omega)),aD,(by exact Fj _ _ _)⟩)<;>first|omega|(simp [go_sem,seval,Dr15.c,b,f,A,aA n,q,cP,aA G,g,a,l,m,O,o,D,u,aA u,L]<;>omega)
  .try simp [go_sem] at u
   have hK:k=I.length:=aD
   have d8:LW t (i5 d.nodes i)=mX I x.2 k:=by unfold LW;rw [l,m,w,hK]
   have f8:=E.2
   have nx:=Lf H.next
   try simp [go_sem,seval,Dr15.c,b,f,A,aA n,q,cP,aA G,g,a,l,m,O,o,D,nx]
   repeat first|intro _|refine ⟨eK,?_⟩
   refine dN (i+1) aD ((a2 _ _ _).2 ⟨?_,?_,?_,?_,?_,?_,?_,?_,?_,?_,(by simp [go_sem,Dr15.c,b,f,A,aA n,q,cP,aA G,g,a,l,m,O,o,D,nx,Rn,l]),?_,(by simp [go_sem,Dr15.c,b,f,A,aA n,q,cP,aA G,g,a,l,m,O,o,D,nx,QL,d8,cL,dLI]),?_,(by first|assumption|omega|(simp [go_sem,Dr15.c,b,f,A,aA n,q,cP,aA G,g,a,l,m,O,o,D,nx,u];done)|(simp_all<;>omega)),(by first|assumption|omega|(simp [go_sem,Dr15.c,b,f,A,aA n,q,cP,aA G,g,a,l,m,O,o,D,nx,u];done)|(simp_all<;>omega)),aD,(by exact MC _ _ _),(by exact Ll _ _ _)⟩)<;>first|omega|(simp [go_sem,seval,Dr15.c,b,f,A,aA n,q,cP,aA G,g,a,l,m,O,o,D,nx]<;>omega)
 .try simp [go_sem] at A
  have hI:i=(if C.length=0 then 0 else min d.nodes.length 8):=by
   split
   .rename_i h;exact hz h
   .rename_i h
    have hq:¬ (i<d.nodes.length/\i<8):=λhh=>h (by rw [A hh.1 aD];rfl)
    omega
  obtain ⟨K,j⟩:=eX (Ar t d.nodes i)
  rw [j] at b
  try simp [go_sem,seval,Dr15.c,P,b,f,j]
  repeat first|intro _|refine ⟨eK,?_⟩
  obtain ⟨I4,R⟩:∃ I4:Nat->dA->AHeap->Prop,∀ (k:Nat) (e:dA) (H:AHeap),I4 k e H↔(∃ N:Nat,∃ T:List Edge,(e 2=.adr t.c)/\(e 3=.adr d.c)/\(e 4=.ptr 0 1 0 0)/\(e 5=.ptr 1 1 0 0)/\(e 13=dI i)/\(e 14=dI k)/\(H.get 0=some ⟨44,3,[[.nil,.nil,.nil]],false⟩)/\(0<H.next)/\(H.get 1=some ⟨44,3,[[.own 2 i,.own N T.length,.own 3 i]],false⟩)/\(1<H.next)/\(H.get 2=some ⟨3,1,K.map cI,false⟩)/\(2<H.next)/\(H.get 3=some ⟨26,1,(An t d.nodes i).map cL,false⟩)/\(3<H.next)/\(H.get N=some ⟨122,3,T.map Edge.c,false⟩)/\(N<H.next)/\(k<=10)/\(k<=d.edges.length)/\(K.length=0\/t.edges.length=0->k=0)/\(3<N)/\(T=M9 t K [] d.edges k)/\(T.length<=k)):=⟨λk e H=>_,λ_ _ _=>Iff.rfl⟩
  refine A5 (Ghosts.step (Ghosts.refl _) 1 0 1 122 3 _ _ (V) rfl rfl rfl) I4 (λk=>10 - k) (0) ((R _ _ _).2 ⟨(H.next),([]),?_,?_,?_,?_,?_,?_,?_,?_,?_,?_,?_,?_,?_,?_,?_,?_,(by first|assumption|omega|(simp [go_sem,Dr15.c,P,b,f,j];done)|(simp_all;done)),(by first|assumption|omega|(simp [go_sem,Dr15.c,P,b,f,j];done)|(simp_all;done)),(by intro _;rfl),aD,(by simp [M9]),aF⟩) ?_
  iterate 16 (first|omega|(simp [go_sem,seval,Dr15.c,P,b,f,j]<;>omega))
  intro k e H f9
  obtain ⟨N,T,c1,b6,b3,b0,X,W,f0,d4,e8,d1,e5,c8,e1,c5,a3,a0,hk,l,f4,h1,hy,g5⟩:=(R _ _ _).1 f9
  have x0:=b8 d4
  have x1:=b8 d1
  have x2:=b8 c8
  have x3:=b8 c5
  have f3:=b8 a0
  have J:=And.intro c1 (And.intro b6 (And.intro b3 (And.intro b0 (And.intro X (And.intro W (And.intro f0 (And.intro e8 (And.intro e5 (And.intro e1 (And.intro a3 (And.intro x0 (And.intro x1 (And.intro x2 (And.intro x3 f3))))))))))))))
  have v:=And.intro (dG (aD:N≠3)) (And.intro (dG (aD:N≠2)) (And.intro (dG (aD:N≠1)) (And.intro (dG (aD:N≠0)) (And.intro (dG (aD:3≠2)) (And.intro (dG (aD:3≠1)) (And.intro (dG (aD:3≠0)) (And.intro (dG (aD:2≠1)) (And.intro (dG (aD:2≠0)) (dG (aD:1≠0))))))))))
  try simp [go_sem,seval,Dr15.c,b,f,j,J,v]
  repeat first|intro _|refine ⟨eK,?_⟩
  refine aP (λs=>?_) (λs=>?_)
  .try simp [go_sem] at s
   have z:k<d.edges.length:=aD
   have g2:0<t.edges.length:=aD
   have g7:0<i:=aD
   have g4:¬t.edges=[]:=jN.1 g2
   have g3:¬K=[]:=jN.1 aD
   obtain ⟨x,q⟩:=eX (d.edges[k])
   have w:d.edges[k]?.getD (0,0,0)=x:=by rw [aA z,<- q];rfl
   have f6:=jW x.1
   have f5:=jW x.2.1
   have g6:=jW x.2.2
   have t1:=b7 (aD:0<=(x.1.toNat:Int)) (aD:(0:Int)<t.edges.length)
   have t2:=b7 (aD:0<=(x.2.1.toNat:Int)) (aD:(0:Int)<i)
   have t3:=b7 (aD:0<=(x.2.2.toNat:Int)) (aD:(0:Int)<i)
   have M:((x.2.1.toNat:Int).tmod i).toNat<K.length:=aD
   have y:((x.2.2.toNat:Int).tmod i).toNat<K.length:=aD
   have a:(t.edges.length:Int)≠0:=aD
   have p:(i:Int)≠0:=aD
   have B:=Lf H.next
   try simp [go_sem,seval,Dr15.c,b,f,j,J,v,s,aA z,q,w,cT3,aA M,aA y,a,p,B]
   repeat first|intro _|refine ⟨eK,?_⟩
   refine aM (F1 t ht.ok _ _ _) ((by first|rfl|(simp [go_sem,<- List.map_take,<- List.map_drop,Dr15.c,b,f,j,J,v,s,aA z,q,w,cT3,aA M,aA y,a,p,B];done))) ?_
   try simp [go_sem,seval,Dr15.c,b,f,j,J,v,s,aA z,q,w,cT3,aA M,aA y,a,p,B]
   repeat first|intro _|refine ⟨eK,?_⟩
   refine aP (λF=>?_) (λF=>?_)
   .try simp [go_sem] at F
    have S:u4 t K x=[mkEd t i x]:=by unfold u4 nN;rw [b];unfold mkEd;rw [if_pos (by simpa [aA M,aA y] using F)]
    try simp [go_sem,seval,Dr15.c,b,f,j,J,v,s,aA z,q,w,cT3,aA M,aA y,a,p,B,S,mkEd]
    repeat first|intro _|refine ⟨eK,?_⟩
    refine dN (k+1) aD ((R _ _ _).2 ⟨(N),(T++u4 t K (d.edges[k]?.getD (0,0,0))),?_,?_,?_,?_,?_,?_,?_,?_,?_,?_,?_,?_,?_,?_,?_,?_,(by first|assumption|omega|(simp [go_sem,Dr15.c,b,f,j,J,v,s,aA z,q,w,cT3,aA M,aA y,a,p,B,S,mkEd,A,F];done)|(simp_all<;>omega)),(by first|assumption|omega|(simp [go_sem,Dr15.c,b,f,j,J,v,s,aA z,q,w,cT3,aA M,aA y,a,p,B,S,mkEd,A,F];done)|(simp_all<;>omega)),aD,aD,(by rw [yU,<- hy]),(by rw [aJ];have:=yV t K (d.edges[k]?.getD (0,0,0));omega)⟩)<;>first|omega|(simp [go_sem,seval,Dr15.c,b,f,j,J,v,s,aA z,q,w,cT3,aA M,aA y,a,p,B,S,mkEd]<;>omega)
   .try simp [go_sem] at F
    have S:u4 t K x=[]:=by unfold u4 nN;rw [b];unfold mkEd;rw [if_neg (by simpa [aA M,aA y] using F)]
    try simp [go_sem,seval,Dr15.c,b,f,j,J,v,s,aA z,q,w,cT3,aA M,aA y,a,p,B,S]
    repeat first|intro _|refine ⟨eK,?_⟩
    refine dN (k+1) aD ((R _ _ _).2 ⟨(N),(T++u4 t K (d.edges[k]?.getD (0,0,0))),?_,?_,?_,?_,?_,?_,?_,?_,?_,?_,?_,?_,?_,?_,?_,?_,(by first|assumption|omega|(simp [go_sem,Dr15.c,b,f,j,J,v,s,aA z,q,w,cT3,aA M,aA y,a,p,B,S,A,F];done)|(simp_all<;>omega)),(by first|assumption|omega|(simp [go_sem,Dr15.c,b,f,j,J,v,s,aA z,q,w,cT3,aA M,aA y,a,p,B,S,A,F];done)|(simp_all<;>omega)),aD,aD,(by rw [yU,<- hy]),(by rw [aJ];have:=yV t K (d.edges[k]?.getD (0,0,0));omega)⟩)<;>first|omega|(simp [go_sem,seval,Dr15.c,b,f,j,J,v,s,aA z,q,w,cT3,aA M,aA y,a,p,B,S]<;>omega)
  .try simp [go_sem] at s
   have hK:k=(if K.length=0\/t.edges.length=0 then 0 else min d.edges.length 10):=by
    split
    .rename_i h;exact f4 h
    .rename_i h
     have hq:¬ (k<d.edges.length/\k<10):=λhh=>h (.inr (by rw [s hh.1 aD aD];rfl))
     omega
   have U:A4 t d=⟨⟨K,T⟩,An t d.nodes i⟩:=by
    unfold A4
    rw [hC,<- hI,j,<- hK,hy]
   try simp [go_sem,seval,Dr15.c,b,f,j,J,v]
   exact hQ _ _ (by first|(left;(simp [go_sem,Dr15.c,b,f,j,J,v,U,Host.d,Host.c]);done)|(right;(simp [go_sem,Dr15.c,b,f,j,J,v,U,Host.d,Host.c]);done))
attribute [go_sem] Host.d Host.c
def MU (l:List Int):Bool:=decide (12<(l.length:Int))
def Dp (h:Host):Bool:=fewG h.graph&&decide ((h.values.length:Int)<=45)&&!(h.values.any MU)
theorem ID (h:Host):Pure Tryz.prog 68 [h.d] (.bool (Dp h)):=by
 refine Tz.pK ⟨λ_=>false,λ_=>[]⟩ Tryz.func68 rfl (λQ j=>?_)
 have Y:=wa @Host.d.eq_1 @Host.c.eq_1
 refine wo (h:=aB (zP h.graph) wl ?_)
 refine f9 (λl=>?_) λl=>?_
 .have b:Dp h=false:=by cases f:fewG h.graph<;>simp [f] at l<;>simp [Dp,f]<;>omega
  exact wv (h:=j _ _ (by simp [go_sem,b]))
 .have hG:fewG h.graph=true/\(h.values.length:Int)<=45:=by cases f:fewG h.graph<;>simp [f] at l<;>exact ⟨rfl,aD⟩
  refine wv (h:=bV (λi e H=>(e 1=.adr h.c/\e 3=dI i)/\(i<=h.values.length)/\((h.values.take i).any MU=false)) (λi=>h.values.length - i) 0 ⟨wg,wi,(by rfl)⟩ λq k i e H g=>?_)
  obtain ⟨o,p,m⟩:=g
  have Y:=wa Y o
  refine f9 (λa=>?_) λa=>?_
  .have Y:=wa Y (wa a (wa (aA a) @cL.eq_1))
   refine f9 (λn=>?_) λn=>?_
   .refine wv (h:=?_)
    have b:Dp h=false:=by
     have:h.values.any MU=true:=aZ.2 ⟨_,aC a,by unfold MU;simp;omega⟩
     unfold Dp;rw [this];simp
    exact j _ _ (by simp [go_sem,b])
   .exact wo (h:=wx k (i+1) ⟨wg,wj,(by rw [dX _ _ _ a,m];unfold MU;simp;omega)⟩)
  .have b:Dp h=true:=by have:=pO m a;unfold Dp;rw [hG.1,this,decide_eq_true hG.2];rfl
   exact wv (h:=j _ _ (by simp [go_sem,b]))
def dM (t:Types)(g h:Graph):Int:=if (cH t).2≠0 then (cH t).2 else if graphF g≠0 then graphF g else if graphF h≠0 then graphF h else if (!kT t g||!kT t h)=true then 13 else 0
theorem Mb (t:Types)(j:t.ok)(g h:Graph):Pure Tryz.prog 246 [t.d,g.d,h.d] (dI (dM t g h)):=by
 refine Tz.pK ⟨λ_=>false,λ_=>[]⟩ Tryz.func246 rfl (λQ c=>?_)
 have Y:=trivial
 refine wv (h:=aB (yF t j) wl ?_)
 refine d7 (λb=>?_) λb=>?_
 .exact wv (h:=c _ _ (by simp [go_sem,dM,b]))
 .refine wv (h:=aB (lU g) wl ?_)
  refine d7 (λe=>?_) λe=>?_
  .exact wv (h:=c _ _ (by simp [go_sem,dM,b,e]))
  .refine wv (h:=aB (lU h) wl ?_)
   refine d7 (λf=>?_) λf=>?_
   .exact wv (h:=c _ _ (by simp [go_sem,dM,b,e,f]))
   .refine wo (h:=aB (yD t g) wl ?_)
    refine wo (h:=aO (λi=>yD t h) (λi=>wl) ?_)
    refine f9 (λa=>?_) λa=>?_
    .exact wv (h:=c _ _ (by simp [go_sem,dM,b,e,f];intro i;rcases a with h|h<;>simp_all))
    .exact wv (h:=c _ _ (by simp [go_sem,dM,b,e,f];simpa using a))
def light17 (t:Types)(g h:Graph):Bool:=u7 t&&fewG g&&fewG h&&(decide (dM t g h≠0)||(decide ((g.nodes.length:Int)+g.edges.length<=6)&&decide ((h.nodes.length:Int)<=8)&&decide ((h.edges.length:Int)<=12)))
theorem Mc (t:Types)(b:t.ok)(g h:Graph):Pure Tryz.prog 218 [t.d,g.d,h.d] (.bool (light17 t g h)):=by
 refine Tz.pK ⟨λ_=>false,λ_=>[]⟩ Tryz.func218 rfl (λQ e=>?_)
 have f:u7 t=true->fewG g=true->fewG h=true->dM t g h=0->QF .i64 ((g.nodes.length:Int)+g.edges.length):=λ_ a _ _=>by simp [fewG] at a;exact cZ aD aD
 have Y:=trivial
 refine wo (h:=aB (IG t (λn c=>c9 (b.nodes n c).few aD)) wl ?_)
 refine wo (h:=aO (λa=>zP g) (λa=>wl) ?_)
 refine wo (h:=aO (λa=>zP h) (λa=>wl) ?_)
 refine wo (h:=aO (λa=>Mb t b g h) (λa=>wl) ?_)
 have Y:=wa Y @light17.eq_1
 exact wo (h:=e _ _ wy)
def light21 (t:Types)(p:Pattern)(h:Host):Bool:=fewP p&&Dp h&&light17 t p.graph h.graph
theorem Ma (t:Types)(b:t.ok)(p:Pattern)(h:Host):Pure Tryz.prog 132 [t.d,p.d,h.d] (.bool (light21 t p h)):=by
 refine Tz.pK ⟨λ_=>false,λ_=>[]⟩ Tryz.func132 rfl (λQ e=>?_)
 have Y:=wa @Host.c.eq_1 @Pattern.c.eq_1
 refine wo (h:=aB (uP p) wl ?_)
 refine wo (h:=aO (λa=>ID h) (λa=>wl) ?_)
 refine wo (h:=aO (λa=>Mc t b p.graph h.graph) (λa=>wl) ?_)
 have Y:=wa Y @light21.eq_1
 exact wo (h:=e _ _ wy)
end Go.Abs
end
section
set_option maxHeartbeats 1000000
namespace Go.Abs
open Go.Maps (Keyed)
def CJ (u:Int):Prop:=-9223372036854775808<=u/\u<=9223372036854775807
theorem Kw {u:Int}(h:CJ u):(Lit.int .i64 u).wf=true:=by
 obtain ⟨b,a⟩:=h
 simp [Lit.wf,IntKind.min,IntKind.max,IntKind.bits,IntKind.signed];omega
theorem Sp {u:Int}(h:(Lit.int .i64 u).wf=true):CJ u:=by
 simp [Lit.wf,IntKind.min,IntKind.max,IntKind.bits,IntKind.signed] at h
 exact ⟨aD,aD⟩
def kv (u v:Int):Value:=.agg #[.int .i64 u,.int .i64 v]
def kl (u v:Int):Lit:=.string (keyBytes [.int .i64 u,.int .i64 v])
structure MapT (P:Program) (T K E:TypeId):Prop where
 t:P.underlying T=some (.map K E)
 e:P.underlying E=some (.int .i64)
 law:Keyed P K
 kmk:∀ u v,CJ u->CJ v->keyOf P K (kv u v)=some (kl u v)
 inv:∀ key l,keyOf P K key=some l->∃ u v,CJ u/\CJ v/\key=kv u v
 z:∀ w,(zeroValue E).run P w=.ok (.int .i64 0) w
theorem B7 {P:Program}{K E:TypeId}{e c:Field}(g:P.underlying K=some (.struct #[e,c]))(j:e.type=E/\e.offset=0/\(e.name != "_")=true)(i:c.type=E/\c.offset=1/\(c.name != "_")=true)
  (h:P.cellsOf K=2) (f:P.cellsOf E=1) (d:Nat) (a b:Value):P.keyLits (d+1) K [a,b]=(P.keyLits d E [a]).bind λx=>(P.keyLits d E [b]).map λy=>x++y:=by
 obtain ⟨p,o,n⟩:=j
 obtain ⟨m,l,k⟩:=i
 rw [Program.keyLits.eq_def]
 simp only [g]
 rw [if_pos (by simp [h,n,k])]
 simp only [List.mapM_cons,List.mapM_nil,p,o,m,l,f,List.drop_zero,sI,List.take_zero,List.drop_succ_cons,bind,pure]
 cases P.keyLits d E [a]<;>simp
 cases P.keyLits d E [b]<;>simp
theorem tB {P:Program}{E:TypeId}(a:P.underlying E=some (.int .i64))(d:Nat)(v:Value)(l:List Lit):P.keyLits (d+1) E [v]=some l↔∃ u,v=.int .i64 u/\(Lit.int .i64 u).wf=true/\l=[.int .i64 u]:=by
 rw [Program.keyLits.eq_def]
 simp only [a]
 cases v<;>simp
 rename_i k n
 constructor
 .rintro ⟨⟨rfl,h⟩,rfl⟩;exact ⟨n,⟨rfl,rfl⟩,h,rfl⟩
 .rintro ⟨u,⟨rfl,rfl⟩,h,rfl⟩;exact ⟨⟨rfl,h⟩,rfl⟩
theorem Ux {P:Program}{T K E:TypeId}{n m:Field}(G:P.underlying T=some (.map K E))(g:P.underlying E=some (.int .i64))(c:P.underlying K=some (.struct #[n,m]))(D:n.type=E/\n.offset=0/\(n.name != "_")=true)(C:m.type=E/\m.offset=1/\(m.name != "_")=true)
  (k:P.cellsOf K=2) (i:P.cellsOf E=1) (s:P.keyType K=true) (H:∃ d,P.types.size+1=d+1+1) (e:Keyed P K) (F:∀ w,(zeroValue E).run P w=.ok (.int .i64 0) w):MapT P T K E:=by
 obtain ⟨d,A⟩:=H
 refine ⟨G,g,e,λu v r q=>?_,λp l h=>?_,F⟩
 .unfold keyOf
  simp only [c]
  rw [if_pos (by simp [s,Value.formed,c,kv,k]),A]
  have J:=(tB g d (.int .i64 u) _).2 ⟨u,rfl,Kw r,rfl⟩
  have I:=(tB g d (.int .i64 v) _).2 ⟨v,rfl,Kw q,rfl⟩
  show ((P.keyLits (d+1+1) K [.int .i64 u,.int .i64 v]).map λo=>Lit.string (keyBytes o))=_
  rw [B7 c D C k i,J,I];rfl
 .unfold keyOf at h
  simp only [c] at h
  split at h
  .rename_i hf
   rw [aN] at hf
   have f:=hf.2
   cases p<;>simp [Value.formed,c,k] at f
   rename_i z
   obtain ⟨z⟩:=z
   match z,f with
   | [a,b],_ =>
    rw [A] at h
    have j:((P.keyLits (d+1+1) K [a,b]).map λo=>Lit.string (keyBytes o))=some l:=h
    rw [B7 c D C k i] at j
    cases t:P.keyLits (d+1) E [a] with
    | none=>rw [t] at j;cases j
    | some x =>
     cases B:P.keyLits (d+1) E [b] with
     | none=>rw [t,B] at j;cases j
     | some y =>
      obtain ⟨u,rfl,r,_⟩:=(tB g d a x).1 t
      obtain ⟨v,rfl,q,_⟩:=(tB g d b y).1 B
      exact ⟨u,v,Sp r,Sp q,rfl⟩
  .cases h
section
variable {P:Program} {T K E:TypeId}
theorem MapT.inj (h:MapT P T K E){u v d c:Int}(a:CJ u)(b:CJ v)(g:CJ d)(f:CJ c)(e:kl u v=kl d c):u=d/\v=c:=by
 have:=h.law.inj (h.kmk u v a b) (e ▸ h.kmk d c g f)
 simpa [kv] using this
abbrev FM:=Int->Int->Option Int
def JY (F:FM)(u v c:Int):FM:=λu' v'=>if u'=u/\v'=v then some c else F u' v'
def VC (D:DataW Unit)(F:FM):Prop:=∀ u v,CJ u->CJ v->Maps.has D (kl u v)=(F u v).isSome/\∀ c,F u v=some c->∀ z,D.atKey (kl u v) z=.lit (.int .i64 c)
inductive MS where
 | no
 | mp (b n:Nat) (F:FM)
 | rg (b r:Nat) (F:FM) (left:Int->Int->Bool) (xO:Nat) (cur:Option (Int × Int × Int))
def Pl (σ:Nat->Option Ow)(b:Nat):Prop:=∀ i o,σ i=some o->o.block≠some b
def Ea (r:Nat):Value:=.pointer (some ⟨r,0,none⟩)
def MpOk (P:Program)(K E:TypeId)(σ:Nat->Option Ow)(base:Nat)(w:World):MS->Prop
 | .no=>True
 | .mp b n F=>base<=b/\Pl σ b/\∃ D:DataW Unit,w.ownsMap P K (plainElem P E) b n D/\VC D F
 | .rg b r F left xO cur=>base<=b/\base<=r/\Pl σ b/\Pl σ r/\∃ (n:Nat) (D:DataW Unit) (lf:Lit->Bool),w.ranges P K (plainElem P E) b r n D lf xO/\VC D F/\(∀ u v,CJ u->CJ v->lf (kl u v)=left u v) /\
   ∀ u v c,cur=some (u,v,c)->(Instr.entry (Ea r)).run P w=.ok (.tuple #[kv u v,.int .i64 c]) w
theorem GU {σ σ':Nat->Option Ow}{w w':World}(hs:Stp σ w σ' w'){b:Nat}(hb:b<w.heap.size)(h:Pl σ b):Pl σ' b:=λi o' ho hb'=>by
 rcases hs.new i o' b ho hb' with h1|⟨j,o,h1,h2⟩
 .omega
 .exact h j o h1 h2
theorem Po {w w':World}{r b s c a:Nat}{d:Array Nat}{es:Array MapEntry}{v:Value}(l:w.heap[r]?=some (.mapIter (some b) s d c))(k:w.heap[b]?=some (.map es a))
  (f:w'.heap[r]?=some (.mapIter (some b) s d c)) (e:w'.heap[b]?=some (.map es a)) (h:(Instr.entry (Ea r)).run P w=.ok v w):(Instr.entry (Ea r)).run P w'=.ok v w':=by
 simp only [Ea,Instr.entry,getObj,Sem.run_bind,Sem.run,l,k,f,e,Result.andThen] at h ⊢
 cases g:d.back? with
 | none=>simp [g,stuck,Sem.run] at h
 | some st =>
  simp only [g,getObj,Sem.run_bind,Sem.run,k,e,Result.andThen] at h ⊢
  by_cases j:a=c
  .subst j
   simp only [bne_self_eq_false,eD,if_false,if_true] at h ⊢
   cases i:es.find? (λx=>x.born==st) with
   | none=>simp [i,unsupported,Sem.run,Result.andThen] at h
   | some x =>
    simp only [i,Sem.run_pure,Sem.run,Result.ok.injEq,Result.andThen] at h ⊢
    simp_all
  .simp [j,unsupported,Sem.run,Result.andThen] at h
theorem MpOk.stp {σ σ':Nat->Option Ow}{w w':World}{base:Nat}{g:MS}(h:MpOk P K E σ base w g)(f:Stp σ w σ' w'):MpOk P K E σ' base w' g:=by
 cases g with
 | no=>trivial
 | mp b n F =>
  obtain ⟨x,q,D,o,p⟩:=h
  have j:=o.lt
  have G:=f.old b j q
  refine ⟨x,GU f j q,D,?_,p⟩
  obtain ⟨y,a,m,d⟩:=o
  exact ⟨y,a,G.trans m,d⟩
 | rg b r F left xO cur =>
  obtain ⟨x,q,o,p,n,D,B,t,M,L,J⟩:=h
  have l:=t.owns.lt
  have k:=t.lt
  have A:=f.old b l o
  have z:=f.old r k p
  obtain ⟨y,a,e,i,N,m,O,C,I,s,d⟩:=t
  exact ⟨x,q,GU f l o,GU f k p,n,D,B,⟨y,a,e,i,N,A.trans m,O,C,I,z.trans s,d⟩,M,L,λu v c H=>Po s m (z.trans s) (A.trans m) (J u v c H)⟩
theorem MpOk.base {σ:Nat->Option Ow}{w:World}{base a:Nat}{g:MS}(h:MpOk P K E σ base w g)(c:a<=base):MpOk P K E σ a w g:=by
 cases g with
 | no=>trivial
 | mp b n F=>exact ⟨c9 c h.1,h.2⟩
 | rg b r F left xO cur=>exact ⟨c9 c h.1,c9 c h.2.1,h.2.2⟩
theorem TD {w:World}{b:Nat}{es:Array MapEntry}{clock:Nat}(hb:w.heap[b]?=some (.map es clock)):∀ ad:Addr,ad.block=b->w.cell? ad=none:=λad e=>by simp [World.cell?,e,hb]
theorem R0 {w:World}{r:Nat}{m:Option Nat}{s c:Nat}{seen:Array Nat}(hr:w.heap[r]?=some (.mapIter m s seen c)):∀ ad:Addr,ad.block=r->w.cell? ad=none:=λad e=>by simp [World.cell?,e,hr]
theorem Rel.turned {d:Nat->Prop}{H:AHeap}{σ:Nat->Option Ow}{w w':World}{row:Option Nat}(h:Rel d H σ w)(j:w.grownBy w' row)(p:∀ b,row=some b->Pl σ b/\∀ ad:Addr,ad.block=b->w.cell? ad=none) :
  Rel d H σ w'/\Keeps (cX d H σ) σ H.al w (cX d H σ) σ H.al w':=by
 have q:Keeps (cX d H σ) σ H.al w (cX d H σ) σ H.al w':=⟨λad u t g=>⟨t,by
  have m:some ad.block≠row:=λe=>by rw [(p _ e.symm).2 ad rfl] at g;cases g
  exact (World.cell?_of_block (j.block ad.block (World.block_lt_of_cell? w ad g) m)).trans g⟩,λid s _ h=>⟨s,h,.inl rfl⟩,λ_ h=>h⟩
 refine ⟨⟨h.top,h.nxt,λid k n=>?_,h.inj,λi o c f a=>⟨cW (h.lt i o c f a).1 j.size,(h.lt i o c f a).2⟩,λc a=>cW (h.m0 c a) j.size⟩,q⟩
 obtain ⟨o,f,l⟩:=h.lies id k n
 obtain ⟨r,z,y,x⟩:=l.row
 refine ⟨o,f,l.ver,l.ty,l.sz,l.esz,r,z.kept j ?_,y,x.keep q⟩
 cases v:o.val.ownBlock with
 | none=>exact .inl rfl
 | some c=>exact .inr λe=>(p c e.symm).1 id o f v
theorem Stp.turned {σ0 σ:Nat->Option Ow}{w0 w w':World}{row:Option Nat}(h:Stp σ0 w0 σ w)(hg:w.grownBy w' row)(hr:∀ b,row=some b->w0.heap.size<=b):Stp σ0 w0 σ w' :=
 ⟨hg.os.trans h.os,hg.tape.trans h.tape,hg.output.trans h.output,c9 h.size hg.size,λb hb hn=>(hg.block b (cW hb h.size) (λe=>by have:=hr b e.symm;omega)).trans (h.old b hb hn),h.new⟩
structure SG (P:Program) (K E:TypeId) (n:Nat) (M0:Nat->Prop) (H0:AHeap) (σ0:Nat->Option Ow) (w0:World) (g:MS) (e:dA) (H:AHeap) (σ:Nat->Option Ow) (a:Act) (w:World):Prop where
 st:St n M0 H σ w e a
 stp:Stp σ0 w0 σ w
 keep:Keeps (cX M0 H0 σ0) σ0 H0.al w0 (cX M0 H σ) σ H.al w
 map:MpOk P K E σ w0.heap.size w g
section
variable {n:Nat} {M0:Nat→Prop} {H0 H:AHeap} {σ0 σ:Nat→Option Ow} {w0 w w':World} {g g':MS} {e:dA} {a:Act}
theorem SG.turned {row:Option Nat}(h:SG P K E n M0 H0 σ0 w0 g e H σ a w)(j:w.grownBy w' row)(i:∀ b,row=some b->w0.heap.size<=b/\Pl σ b/\∀ ad:Addr,ad.block=b->w.cell? ad=none)
  (o:MpOk P K E σ w0.heap.size w' g') {c:Option Tmp} (m:p8 n c=true) {v:Value} {d:D} (l:RepV (cX M0 H σ) σ H.al w' v d):SG P K E n M0 H0 σ0 w0 g' (nZ e c d) H σ (a.put c v) w':=by
 obtain ⟨p,k⟩:=h.st.rel.turned j λb f=>(i b f).2
 exact ⟨h.st.put p k m l,h.stp.turned j λb f=>(i b f).1,h.keep.trans k,o⟩
def NZ (P:Program)(K E:TypeId)(n:Nat)(M0:Nat->Prop)(H0:AHeap)(σ0:Nat->Option Ow)(w0:World)(X:MS->dA->AHeap->Prop)(a:Act)(w:World):Prop:=∃ g e H σ,X g e H/\SG P K E n M0 H0 σ0 w0 g e H σ a w
end
abbrev PG:=Exit->MS->dA->AHeap->Prop
def WpG (P:Program)(K E:TypeId)(n:Nat)(x:Code)(Q:PG)(g:MS)(e:dA)(H:AHeap):Prop :=
 ∀ M0 H0 σ0 w0 σ a w,SG P K E n M0 H0 σ0 w0 g e H σ a w->x.wp P (λex a w=>NZ P K E n M0 H0 σ0 w0 (Q ex) a w) a w
def Is (R:MS->dA->AHeap->Prop)(Q:PG):PG
 | .normal,g,e,H=>R g e H
 | ex,g,e,H=>Q ex g e H
def KP (id:Nat)(Q:PG):PG
 | .exit id',g,e,H=>if id'=id then Q .normal g e H else Q (.exit id') g e H
 | ex,g,e,H=>Q ex g e H
variable {n:Nat} {c:Cfg} {Q:PG} {g:MS} {e:dA} {H:AHeap}
theorem fU {x:Code}(hm:P.follows .mixedOrders=true)(hok:oG c n x=true)(h:nW P c x (λex e H=>Q ex g e H) e H):WpG P K E n x Q g e H :=
 λM0 H0 σ0 w0 σ a w hS=>g8 (nK hm x _ e H h hok σ w a hS.st) λex a' w' ⟨e',H',σ',hq,hS',hst',hk'⟩=>⟨g,e',H',σ',hq,hS',hS.stp.trans hst',hS.keep.trans hk',hS.map.stp hst'⟩
theorem WpG.seq {x y:Code}(h:WpG P K E n x (Is (WpG P K E n y Q) Q) g e H):WpG P K E n (.seq x y) Q g e H:=λM0 H0 σ0 w0 σ a w hS=>by
 refine wp_seq (g8 (h M0 H0 σ0 w0 σ a w hS) λex a' w' hc=>?_)
 cases ex<;>first|exact hc|skip
 obtain ⟨g',e',H',σ',hq,hS'⟩:=hc
 exact hq M0 H0 σ0 w0 σ' a' w' hS'
theorem dC {x y:Code}(h:∀ R:MS->dA->AHeap->Prop,(∀ g e H,WpG P K E n y Q g e H->R g e H)->WpG P K E n x (Is R Q) g e H):WpG P K E n (.seq x y) Q g e H:=.seq (h _ λ_ _ _ h=>h)
@[go_sem] theorem Ud {R:MS->dA->AHeap->Prop}{g:MS}{e:dA}{H:AHeap}:Is R Q .normal g e H=R g e H:=rfl
@[go_sem] theorem WT {R:MS->dA->AHeap->Prop}{g:MS}{e:dA}{H:AHeap}:Is R Q .ret g e H=Q .ret g e H:=rfl
@[go_sem] theorem VM {R:MS->dA->AHeap->Prop}{g:MS}{e:dA}{H:AHeap}{i:Nat}:Is R Q (.exit i) g e H=Q (.exit i) g e H:=rfl
@[go_sem] theorem WK {i:Nat}{g:MS}{e:dA}{H:AHeap}:KP i Q .ret g e H=Q .ret g e H:=rfl
@[go_sem] theorem T6 {i:Nat}{g:MS}{e:dA}{H:AHeap}:KP i Q .normal g e H=Q .normal g e H:=rfl
@[go_sem] theorem Vz {i j:Nat}{g:MS}{e:dA}{H:AHeap}:KP i Q (.exit j) g e H=if j=i then Q .normal g e H else Q (.exit j) g e H:=rfl
theorem WpG.cond {x:Operand}{y z:Code}{t:Bool}(hx:eH e x=.bool t)(h1:t=true->WpG P K E n y Q g e H)(h2:t=false->WpG P K E n z Q g e H):WpG P K E n (.cond x y z) Q g e H:=λM0 H0 σ0 w0 σ a w hS=>by
 have hv:=hS.st.envR.ev x
 rw [hx] at hv
 have hc:a.eval x=.bool t:=by generalize a.eval x=v at hv;cases hv;rfl
 exact wp_cond_split hc (λht=>h1 ht M0 H0 σ0 w0 σ a w hS) λht=>h2 ht M0 H0 σ0 w0 σ a w hS
theorem WpG.block {id:Nat}{b:Code}(h:WpG P K E n b (KP id Q) g e H):WpG P K E n (.block id b) Q g e H:=λM0 H0 σ0 w0 σ a w hS=>by
 refine wp_block (g8 (h M0 H0 σ0 w0 σ a w hS) λex a' w' hc=>?_)
 cases ex<;>first|exact hc|skip
 rename_i id'
 obtain ⟨g',e',H',σ',hq,hS'⟩:=hc
 by_cases hid:id'=id
 .subst hid
  show (if id'=id' then NZ P K E n M0 H0 σ0 w0 (Q .normal) a' w' else _)
  rw [if_pos rfl]
  refine ⟨g',e',H',σ',?_,hS'⟩
  have h':(if id'=id' then Q .normal g' e' H' else Q (.exit id') g' e' H'):=hq
  rw [if_pos rfl] at h';exact h'
 .show (if id'=id then NZ P K E n M0 H0 σ0 w0 (Q .normal) a' w' else NZ P K E n M0 H0 σ0 w0 (Q (.exit id')) a' w')
  rw [if_neg hid]
  refine ⟨g',e',H',σ',?_,hS'⟩
  have h':(if id'=id then Q .normal g' e' H' else Q (.exit id') g' e' H'):=hq
  rw [if_neg hid] at h';exact h'
theorem WpG.loop {b:Code}{ι:Type}(I:ι->MS->dA->AHeap->Prop)(m:ι->Nat)(x0:ι)(h0:I x0 g e H)(hI:∀ x g e H,I x g e H->WpG P K E n b (Is (λg' e' H'=>∃ x',m x'<m x/\I x' g' e' H') Q) g e H):WpG P K E n (.loop b) Q g e H :=
 λM0 H0 σ0 w0 σ a w hS=>by
 let J:Nat->Act->World->Prop:=λk a' w'=>∃ g e H σ x,m x=k/\I x g e H/\SG P K E n M0 H0 σ0 w0 g e H σ a' w'
 have hJ0:J (m x0) a w:=⟨g,e,H,σ,x0,rfl,h0,hS⟩
 classical
 let μ:Act->World->Nat:=λa' w'=>if hx:∃ k,J k a' w' then Classical.choose (fO hx) else 0
 refine wp_loop (λa' w'=>∃ k,J k a' w') μ ⟨_,hJ0⟩ λa' w' hx=>?_
 have hμ:μ a' w'=Classical.choose (fO hx):=by simp only [μ,dif_pos hx]
 obtain ⟨g1,e1,H1,σ1,x1,hx1,hi,hS1⟩:=(xR (fO hx)).1
 refine g8 (hI x1 g1 e1 H1 hi M0 H0 σ0 w0 σ1 a' w' hS1) λex a'' w'' hc=>?_
 cases ex<;>first|exact hc|skip
 obtain ⟨g2,e2,H2,σ2,⟨x2,hlt,hi2⟩,hS2⟩:=hc
 have hx2:∃ k,J k a'' w'':=⟨m x2,g2,e2,H2,σ2,x2,rfl,hi2,hS2⟩
 refine ⟨hx2,?_⟩
 have:μ a'' w''=Classical.choose (fO hx2):=by simp only [μ,dif_pos hx2]
 rw [this,hμ]
 refine Nat.lt_of_le_of_lt ?_ (hx1 ▸ hlt)
 rcases bX (m x2) (Classical.choose (fO hx2)) with hlt'|hge
 .exact absurd ⟨g2,e2,H2,σ2,x2,rfl,hi2,hS2⟩ ((xR (fO hx2)).2 _ hlt')
 .exact hge
theorem WpG.ret (h:Q .ret g e H):WpG P K E n .ret Q g e H:=λM0 H0 σ0 w0 σ a w hS=>wp_ret ⟨g,e,H,σ,h,hS⟩
theorem WpG.skip (h:Q .normal g e H):WpG P K E n .skip Q g e H:=λM0 H0 σ0 w0 σ a w hS=>wp_skip ⟨g,e,H,σ,h,hS⟩
theorem WpG.exit {id:Nat}(h:Q (.exit id) g e H):WpG P K E n (.exit id) Q g e H:=λM0 H0 σ0 w0 σ a w hS=>wp_exit ⟨g,e,H,σ,h,hS⟩
/-! ### operations -/
def OpsG (P:Program)(K E:TypeId)(n:Nat)(ops:Array Oper)(l:List Oper)(X:MS->dA->AHeap->Prop)(g:MS)(e:dA)(H:AHeap):Prop :=
 ∀ M0 H0 σ0 w0 σ a w (Q:Exit->Act->World->Prop),SG P K E n M0 H0 σ0 w0 g e H σ a w->(∀ a' w',NZ P K E n M0 H0 σ0 w0 X a' w'->Q .normal a' w')->wpList P ops Q l a w
theorem WpG.region {id:Nat}{ops:Array Oper}(h:OpsG P K E n ops ops.toList (Q .normal) g e H):WpG P K E n (.region id ops false) Q g e H:=λM0 H0 σ0 w0 σ a w hS=>wp_region_list (h M0 H0 σ0 w0 σ a w _ hS λ_ _ hc=>hc)
variable {ops:Array Oper} {l:List Oper} {o:Oper} {X:MS→dA→AHeap→Prop}
theorem OpsG.nil (h:X g e H):OpsG P K E n ops [] X g e H:=λM0 H0 σ0 w0 σ a w Q hS hQ=>wpList_nil (hQ a w ⟨g,e,H,σ,h,hS⟩)
theorem OpsG.pre {md:Nat->Bool}:∀ (l1:List Oper) {l2:List Oper} {e:dA} {H:AHeap},(∀ o∈l1,p8 n o.dst=true)->lM P md ops l1 e H (λe' H'=>OpsG P K E n ops l2 X g e' H')->OpsG P K E n ops (l1++l2) X g e H
 | [],l2,e,H,hd,h=>h
 | o :: l1,l2,e,H,hd,h=>λM0 H0 σ0 w0 σ a w Q hS hQ=>by
  unfold lM at h
  have hs:=zE (Q:=Q) h hS.st (λhn=>nQ _ (hS.st.rel.nxt _ hn)) (hd o aF)
  have:=StepC.mono (K':=wpList P ops Q (l1++l2)) (λa' w' ⟨v,H',F,σ',hk,hS',hst,hkp⟩ =>
   OpsG.pre l1 (λo' ho'=>hd o' (by simp [ho'])) hk M0 H0 σ0 w0 σ' a' w' Q ⟨hS',hS.stp.trans hst,hS.keep.trans hkp,hS.map.stp hst⟩ hQ) hs
  unfold StepC at this
  show wpList P ops Q (o :: (l1++l2)) a w
  unfold wpList
  exact this
theorem OpsG.take {md:Nat->Bool}(k:Nat)(b:((l.take k).all λo=>p8 n o.dst)=true)(h:∀ R:dA->AHeap->Prop,(∀ e' H',OpsG P K E n ops (l.drop k) X g e' H'->R e' H')->lM P md ops (l.take k) e H R):OpsG P K E n ops l X g e H:=by
 have:=OpsG.pre (g:=g) (X:=X) (P:=P) (K:=K) (E:=E) (n:=n) (ops:=ops) (md:=md) (l.take k) (l2:=l.drop k) (λo a=>(cD.1 b) o a) (h _ λ_ _ h=>h)
 rwa [List.take_append_drop] at this
theorem OpsG.all {md:Nat->Bool}(b:(l.all λo=>p8 n o.dst)=true)(h:∀ R:dA->AHeap->Prop,(∀ e' H',X g e' H'->R e' H')->lM P md ops l e H R):OpsG P K E n ops l X g e H:=by
 have:=OpsG.pre (g:=g) (X:=X) (P:=P) (K:=K) (E:=E) (n:=n) (ops:=ops) (md:=md) l (l2:=[]) (λo a=>(cD.1 b) o a) (h _ λ_ _ h=>OpsG.nil h)
 rwa [jV] at this
theorem GY {d:Nat->Prop}{σ:Nat->Option Ow}{w:World}{a:Act}(c:St n d H σ w e a){m:Operand}{v:Value}(b:eH e m=.cst v):a.eval m=v:=by
 have h:=c.envR.ev m
 rw [b] at h
 generalize a.eval m=x at h
 cases h;rfl
theorem Qs {k:Nat->Prop}{σ:Nat->Option Ow}{w:World}{a:Act}(g:St n k H σ w e a){x:Operand}{u v:Int}(d:eH e x=.agg [.int .i64 u,.int .i64 v]):a.eval x=kv u v:=by
 have h:=g.envR.ev x
 rw [d] at h
 generalize a.eval x=y at h
 cases h
 rename_i c f l b
 match c,f with
 | [p,q],_ =>
  have j:=b 0 p _ rfl rfl
  have i:=b 1 q _ rfl rfl
  cases j;cases i;rfl
theorem Wy {d:Nat->Prop}{σ:Nat->Option Ow}{w:World}{a:Act}(c:St n d H σ w e a){x:Operand}{k:IntKind}{u:Int}(b:eH e x=.int k u):a.eval x=.int k u:=by
 have h:=c.envR.ev x
 rw [b] at h
 generalize a.eval x=y at h
 cases h;rfl
theorem LY {M:Nat->Prop}{σ:Nat->Option Ow}{N:Nat->Prop}{w:World}(u v:Int):RepV M σ N w (kv u v) (.agg [.int .i64 u,.int .i64 v]) :=
 .agg [.int .i64 u,.int .i64 v] _ rfl (by simp [Value.oneCell']) λj x d hx hd=>by
  match j with
  | 0=>simp at hx hd;subst hx;subst hd;exact .int _ _
  | 1=>simp at hx hd;subst hx;subst hd;exact .int _ _
  | j+2=>simp at hx
theorem EV {M:Nat->Prop}{σ:Nat->Option Ow}{N:Nat->Prop}{w:World}{vs:List Value}{ds:List D}(hl:vs.length=ds.length)(hr:∀ (j:Nat) (u:Value) (d:D),vs[j]?=some u->ds[j]?=some d->RepV M σ N w u d):RepV M σ N w (.tuple vs.toArray) (.tup ds):=.tup _ _ hl hr
theorem OpsG.make (hT:MapT P T K E){t:TypeId}(hop:o.op=.makeMap t none)(hg:o.guard=none)(hd:p8 n o.dst=true)(h:∀ b,OpsG P K E n ops l X (.mp b 0 λ_ _=>none) (nZ e o.dst (.cst (.map (some b)))) H):OpsG P K E n ops (o :: l) X .no e H :=
 λM0 H0 σ0 w0 σ a w Q hS hQ=>by
 refine wpList_plain hg λK' hK'=>?_
 unfold Oper.wp
 simp only [execOp,hop,RowKit.run_makeMap,Option.map_none,Sem.run_bind,Sem.run_pure,Result.andThen_ok,Result.andThen,Oper.upon_value]
 refine hK' _ _ (h w.heap.size M0 H0 σ0 w0 σ _ _ Q (hS.turned (g':=.mp w.heap.size 0 λ_ _=>none) (World.grownBy_alloc w _ none) aF ⟨hS.stp.size,λi o ho hb=>?_,_,World.ownsMap_made w P K _,λu v _ _=>⟨rfl,by simp⟩⟩ hd (.cst _)) hQ)
 have:=(hS.st.rel.lt i o _ ho hb).1
 omega
theorem Sg (hT:MapT P T K E){t:TypeId}(ht:t=T){m x:Operand}(hop:o.op=.lookup t m x true)(hg:o.guard=none)(hd:p8 n o.dst=true){b k:Nat}{F:FM}(hm:eH e m=.cst (.map (some b))){u v:Int}(hx:eH e x=.agg [.int .i64 u,.int .i64 v])(hu:CJ u)(hv:CJ v)
  (h:OpsG P K E n ops l X (.mp b k F) (nZ e o.dst (.tup [.int .i64 ((F u v).getD 0),.bool (F u v).isSome])) H):OpsG P K E n ops (o :: l) X (.mp b k F) e H :=
 λM0 H0 σ0 w0 σ a w Q hS hQ=>by
 subst ht
 obtain ⟨m1,m2,D,m3,m4⟩:=hS.map
 obtain ⟨r1,r2⟩:=m4 u v hu hv
 refine wpList_lookup_own_ok w hg m x t hop K E hT.law hT.t _ (hT.z w) (.lit (.int .i64 0)) [] (plainElem_int hT.e (Kw ⟨aD,aD⟩)) b k D (GY hS.st hm) m3 (kv u v) (kl u v) (Qs hS.st hx) (hT.kmk u v hu hv) λy ps hy=>?_
 obtain ⟨c,rfl,hc,_⟩:=plainElem_int_inv hT.e hy
 have hcv:c=(F u v).getD 0:=by
  simp only [Prod.mk.injEq] at hc
  cases hF:F u v with
  | none =>
   rw [hF] at r1
   have:=Maps.atKey_of_not_has r1 (.lit (.int .i64 0))
   rw [this] at hc
   have:=hc.1;simp at this;simp [this]
  | some c' =>
   have:=r2 c' hF (.lit (.int .i64 0))
   rw [this] at hc
   have:=hc.1;simp at this;simp [this]
 subst hcv
 rw [r1]
 refine h M0 H0 σ0 w0 σ _ _ Q (hS.turned (row:=none) ⟨rfl,rfl,rfl,bC _,λ_ _ _=>rfl⟩ aF hS.map hd (EV (vs:=[_,_]) rfl λj y d hy hd=>?_)) hQ
 match j with
 | 0=>simp at hy hd;subst hy;subst hd;exact .int _ _
 | 1=>simp at hy hd;subst hy;subst hd;exact .bool _
 | j+2=>simp at hy
theorem OpsG.store (hT:MapT P T K E){t:TypeId}(ht:t=T){m x y:Operand}(hop:o.op=.mapUpdate t m x y)(hg:o.guard=none)(hd:p8 n o.dst=true){b k:Nat}{F:FM}(hm:eH e m=.cst (.map (some b))){u v c:Int}(hx:eH e x=.agg [.int .i64 u,.int .i64 v])(hy:eH e y=.int .i64 c)(hu:CJ u)(hv:CJ v)(hc:CJ c)(hk:k<1000000)
  (h:OpsG P K E n ops l X (.mp b (k+1) (JY F u v c)) (nZ e o.dst .junk) H):OpsG P K E n ops (o :: l) X (.mp b k F) e H :=
 λM0 H0 σ0 w0 σ a w Q hS hQ=>by
 subst ht
 obtain ⟨m1,m2,D,m3,m4⟩:=hS.map
 have hcm:∀ ad:Addr,ad.block=b->w.cell? ad=none:=by obtain ⟨es,clock,hb,_⟩:=m3;exact TD hb
 refine wpList_mapUpdate_own w hg m x y t hop K E hT.law hT.t _ b k D (GY hS.st hm) m3 (by simp only [maxLen];omega) (kv u v) (.int .i64 c) (kl u v) (Qs hS.st hx) (Wy hS.st hy) (hT.kmk u v hu hv) (.lit (.int .i64 c)) [] (plainElem_int hT.e (Kw hc)) λw' hw1 hw2=>?_
 refine h M0 H0 σ0 w0 σ _ _ Q (hS.turned (g':=.mp b (k+1) (JY F u v c)) hw2 (λb' hb'=>by cases hb';exact ⟨m1,m2,hcm⟩) ⟨m1,m2,_,hw1,λu' v' hu' hv'=>?_⟩ hd (.junk _)) hQ
 unfold JY
 by_cases he:u'=u/\v'=v
 .obtain ⟨rfl,rfl⟩:=he
  rw [if_pos ⟨rfl,rfl⟩]
  have hkl:=hT.law.key (hT.kmk u' v' hu' hv')
  exact ⟨Maps.has_put_same m3.isMap hkl _,λc' hc' z=>by cases hc';exact Maps.atKey_put_same m3.isMap hkl _ _⟩
 .rw [if_neg he]
  have hne:kl u' v'≠kl u v:=λe'=>he (hT.inj hu' hv' hu hv e')
  obtain ⟨r1,r2⟩:=m4 u' v' hu' hv'
  exact ⟨(Maps.has_put_other hne _).trans r1,λc' hc' z=>(Maps.atKey_put_other hne _ _).trans (r2 c' hc' z)⟩
theorem OpsG.range (hT:MapT P T K E){t:TypeId}(ht:t=T){m:Operand}(hop:o.op=.range t m)(hg:o.guard=none)(hd:p8 n o.dst=true){b k:Nat}{F:FM}(hm:eH e m=.cst (.map (some b)))
  (h:∀ r xO,OpsG P K E n ops l X (.rg b r F (λu v=>(F u v).isSome) xO none) (nZ e o.dst (.cst (Ea r))) H):OpsG P K E n ops (o :: l) X (.mp b k F) e H :=
 λM0 H0 σ0 w0 σ a w Q hS hQ=>by
 subst ht
 obtain ⟨m1,m2,D,m3,m4⟩:=hS.map
 refine wpList_range_own w hg m t hop K E hT.law hT.t _ b k D (GY hS.st hm) m3 λw' hw1 hw2 hw3=>?_
 refine h w.heap.size (Maps.size D) M0 H0 σ0 w0 σ _ _ Q (hS.turned (g':=.rg b w.heap.size F (λu v=>(F u v).isSome) (Maps.size D) none) hw2 aF ⟨m1,hS.stp.size,m2,λi o ho hb=>?_,k,D,_,hw1,m4,λu v hu hv=>(m4 u v hu hv).1,by simp⟩ hd (.cst _)) hQ
 have:=(hS.st.rel.lt i o _ ho hb).1
 omega
theorem OpsG.next (hT:MapT P T K E){it:Operand}(hop:o.op=.next it false)(hg:o.guard=none)(hd:p8 n o.dst=true){b r xO:Nat}{F:FM}{left:Int->Int->Bool}{cur:Option (Int × Int × Int)}(hit:eH e it=.cst (Ea r))
  (h1:(∀ u v,CJ u->CJ v->left u v=false)->OpsG P K E n ops l X (.rg b r F left xO cur) (nZ e o.dst (.tup [.bool false])) H)
  (h2:∀ u v c cnt',CJ u->CJ v->left u v=true->F u v=some c->cnt'<xO->OpsG P K E n ops l X (.rg b r F (λu' v'=>left u' v'&&!decide (u'=u/\v'=v)) cnt' (some (u,v,c))) (nZ e o.dst (.tup [.bool true,.agg [.int .i64 u,.int .i64 v],.int .i64 c])) H) :
  OpsG P K E n ops (o :: l) X (.rg b r F left xO cur) e H :=
 λM0 H0 σ0 w0 σ a w Q hS hQ=>by
 obtain ⟨m1,m2,m3,m4,k,D,lf,m5,m6,m7,m8⟩:=hS.map
 have hcm:∀ ad:Addr,ad.block=r->w.cell? ad=none:=by obtain ⟨es,clock,since,seen,c0,hb,F',hn,hD,hr,_⟩:=m5;exact R0 hr
 refine wpList_next_ranges w hg it hop K hT.law (plainElem P E) (λp:Int × Int=>kv p.1 p.2) (Value.int .i64) (λkey l hkey=>?_) (λv y hv=>?_) b r k D lf xO (GY hS.st hit) m5 (λhc hl=>?_) λx c l' y w' cnt' hkey hlk hv hat hrg hlt hgr hsz hen=>?_
 .obtain ⟨u,v,_,_,rfl⟩:=hT.inv key l hkey
  exact ⟨(u,v),rfl⟩
 .obtain ⟨c,rfl,_⟩:=plainElem_int_inv hT.e hv;exact ⟨c,rfl⟩
 .refine h1 (λu v hu hv=>by rw [<- m7 u v hu hv];exact hl _) M0 H0 σ0 w0 σ _ _ Q (hS.turned (row:=none) ⟨rfl,rfl,rfl,bC _,λ_ _ _=>rfl⟩ aF hS.map hd (EV (vs:=[_]) rfl λj y d hy hd=>?_)) hQ
  match j with
  | 0=>simp at hy hd;subst hy;subst hd;exact .bool _
  | j+1=>simp at hy
 .obtain ⟨u,v⟩:=x
  simp only at hkey hen
  obtain ⟨u',v',hu,hv',he⟩:=hT.inv _ _ hkey
  simp only [kv,Value.agg.injEq,Array.mk.injEq,List.cons.injEq,Value.int.injEq,true_and,and_true] at he
  obtain ⟨rfl,rfl⟩:=he
  rw [hT.kmk u v hu hv'] at hkey
  cases hkey
  obtain ⟨c',ec,rfl,hwc⟩:=plainElem_int_inv hT.e hv
  cases ec
  have hhas:=Maps.has_true_of_atKey hat
  obtain ⟨r1,r2⟩:=m6 u v hu hv'
  rw [hhas] at r1
  obtain ⟨c2,hc2⟩:=fQ.1 r1.symm
  have hcc:c2=c:=by
   have e1:=r2 c2 hc2 .nil
   rw [hat .nil] at e1
   simp at e1;exact e1.symm
  subst hcc
  refine h2 u v c2 cnt' hu hv' (by rw [<- m7 u v hu hv'];exact hlk) hc2 hlt M0 H0 σ0 w0 σ _ _ Q (hS.turned (g':=.rg b r F (λu' v'=>left u' v'&&!decide (u'=u/\v'=v)) cnt' (some (u,v,c2))) hgr (λb' hb'=>by cases hb';exact ⟨m2,m4,hcm⟩) ⟨m1,m2,m3,m4,k,D,_,hrg,m6,λa1 a2 ha1 ha2=>?_,λa1 a2 a3 ha=>?_⟩ hd (EV (vs:=[_,_,_]) rfl λj y d hy hd=>?_)) hQ
  .rw [m7 a1 a2 ha1 ha2]
   congr 2
   rw [aX]
   constructor
   .intro h;exact decide_eq_true (hT.inj ha1 ha2 hu hv' (WideAt.sameKey_eq h))
   .intro h
    obtain ⟨rfl,rfl⟩:=of_decide_eq_true h
    exact WideAt.sameKey_self (hT.law.key (hT.kmk _ _ hu hv'))
  .cases ha;exact hen
  .match j with
   | 0=>simp at hy hd;subst hy;subst hd;exact .bool _
   | 1=>simp at hy hd;subst hy;subst hd;exact LY _ _
   | 2=>simp at hy hd;subst hy;subst hd;exact .int _ _
   | j+3=>simp at hy
theorem OpsG.entry {it:Operand}(hop:o.op=.entry it)(hg:o.guard=none)(hd:p8 n o.dst=true){b r xO:Nat}{F:FM}{left:Int->Int->Bool}{u v c:Int}(hit:eH e it=.cst (Ea r))
  (h:OpsG P K E n ops l X (.rg b r F left xO (some (u,v,c))) (nZ e o.dst (.tup [.agg [.int .i64 u,.int .i64 v],.int .i64 c])) H):OpsG P K E n ops (o :: l) X (.rg b r F left xO (some (u,v,c))) e H :=
 λM0 H0 σ0 w0 σ a w Q hS hQ=>by
 obtain ⟨m1,m2,m3,m4,k,D,lf,m5,m6,m7,m8⟩:=hS.map
 have hrun:=m8 u v c rfl
 refine wpList_plain hg λK' hK'=>?_
 unfold Oper.wp
 have hit':=GY hS.st hit
 simp only [execOp,hop,hit',hrun,Sem.run_bind,Sem.run_pure,Result.andThen_ok,Result.andThen,Oper.upon_value]
 refine hK' _ _ (h M0 H0 σ0 w0 σ _ _ Q (hS.turned (row:=none) ⟨rfl,rfl,rfl,bC _,λ_ _ _=>rfl⟩ aF hS.map hd (EV (vs:=[_,_]) rfl λj y d hy hd=>?_)) hQ)
 match j with
 | 0=>simp at hy hd;subst hy;subst hd;exact LY _ _
 | 1=>simp at hy hd;subst hy;subst hd;exact .int _ _
 | j+2=>simp at hy
/-! ### calls -/
def GCalls (P:Program)(K E:TypeId)(f:FuncId)(args:List D)(H:AHeap)(Q:D->AHeap->MS->Prop):Prop :=
 VE P f/\∀ (M0:Nat->Prop) (σ:Nat->Option Ow) (w:World) (vals:List Value),Rel M0 H σ w->RepL (cX M0 H σ) σ H.al w vals args ->
  Calls P f vals.toArray w λe w'=>∃ v d H' σ' g,e=.returned v/\Rel M0 H' σ' w'/\RepV (cX M0 H' σ') σ' H'.al w' v d/\Stp σ w σ' w'/\Keeps (cX M0 H σ) σ H.al w (cX M0 H' σ') σ' H'.al w'/\MpOk P K E σ' w.heap.size w' g/\Q d H' g
theorem In {f:FuncId}{args:List D}{Q:D->AHeap->MS->Prop}{Q':D->AHeap->Prop}(h:GCalls P K E f args H Q)(hq:∀ d H' g,Q d H' g->Q' d H'):ACalls P f args H Q' :=
 ⟨h.1,λM0 σ w vals hR ha=>(h.2 M0 σ w vals hR ha).mono λe w' ⟨v,d,H',σ',g,a,b,c,s,k,_,q⟩=>⟨v,d,H',σ',a,b,c,s,k,hq _ _ _ q⟩⟩
def Q1 (P:Program)(rs:List ResultVar)(Q:D->AHeap->MS->Prop):PG:=λex g e H=>Q0 P rs (λd H'=>Q d H' g) ex e H
theorem yW {f:FuncId}{fn:Func}{x:Code}{args:List D}{Q:D->AHeap->MS->Prop}(z:P.funcs[f]?=some fn)(A:fn.body=some x)
  (r:(fn.name=="runtime.NumGoroutine")=false) (y:args.length<=fn.ntmps) (h:WpG P K E fn.ntmps x (Q1 P fn.results.toList Q) .no (Au args) H):GCalls P K E f args H Q:=by
 refine ⟨⟨fn,z,r,by simp [A]⟩,λe σ w a I j=>calls_of_wp z A ?_⟩
 have G:St fn.ntmps e H σ w (Au args) { tmps:=a.toArray++Array.replicate (fn.ntmps - a.toArray.size) undef,defers:=[] }:=by
  refine ⟨I,λt=>?_,rfl,by simp [j.len];omega⟩
  simp only [Au]
  by_cases p:t<a.length
  .have m:a[t]?=some a[t]:=aA p
   have k:args[t]?=some (args[t]'(by rw [<- j.len];exact p)):=aA _
   have:=j.rep t _ _ m k
   rw [List.getD_eq_getElem?_getD,k]
   simp only [Option.getD_some,iU]
   rw [Array.getElem?_append_left (bS p)]
   simpa [m] using this
  .rw [List.getD_eq_getElem?_getD,bE (by rw [<- j.len];omega)]
   exact .junk _
 refine g8 (h e H σ w σ _ w ⟨G,.refl _ _,.refl _ _ _ _,trivial⟩) λM B b F=>?_
 obtain ⟨g,N,u,σ',i,c,q,C,J⟩:=F
 have s:CE P fn.results.toList N u (λl=>Q (Fn l) u g)->B.defers=[]/\∃ v,(results fn B.tmps).run P b=.ok v b /\
   ∃ v2 d H2 σ2 g2,Ending.returned v=.returned v2/\Rel e H2 σ2 b/\RepV (cX e H2 σ2) σ2 H2.al b v2 d/\Stp σ w σ2 b/\Keeps (cX e H σ) σ H.al w (cX e H2 σ2) σ2 H2.al b/\MpOk P K E σ2 w.heap.size b g2/\Q d H2 g2:=by
  intro i
  obtain ⟨O,l,m,k,L⟩:=wP c _ _ i
  obtain ⟨v,o,n⟩:=DS (fn:=fn) m k
  exact ⟨c.defers,v,o,v,_,u,σ',g,rfl,c.rel,n,q,C,J,L⟩
 cases M<;>first|exact s i|exact i.elim
theorem OpsG.call {f:FuncId}{args:List D}{Q:D->AHeap->MS->Prop}(hc:f7 e o=some (f,args))(hg:o.guard=none)(hd:p8 n o.dst=true)(hA:GCalls P K E f args H Q)(h:∀ d H' g',Q d H' g'->OpsG P K E n ops l X g' (nZ e o.dst d) H') :
  OpsG P K E n ops (o :: l) X .no e H:=λM0 H0 σ0 w0 σ a w Q' hS hQ=>by
 refine wpList_plain hg λK' hK'=>?_
 obtain ⟨vals,hrun,hrep⟩:=Bg (P:=P) (λx _=>hS.st.envR.ev x) hc hA.1
 refine AT (args:=args) hrun ((hA.2 M0 σ w vals hS.st.rel hrep).mono λe' w' ⟨v,d,H',σ',g',he,hR',hv,hst,hk,hM,hq⟩=>?_)
 exact ⟨v,he,hK' _ _ (h d H' g' hq M0 H0 σ0 w0 σ' _ _ Q' ⟨hS.st.put hR' hk hd hv,hS.stp.trans hst,hS.keep.trans hk,hM.base hS.stp.size⟩ hQ)⟩
end
end Go.Abs
end
section
set_option maxRecDepth 100000
set_option maxHeartbeats 4000000
open Go Go.Proofs
namespace Go.Abs
@[go_sem] theorem X4 (H:AHeap)(a b c d:Nat):iP H (.ptr a b c d)=.ptr a b c d:=rfl
@[go_sem] theorem VW (a b c d:Nat):dK (.ptr a b c d)=[]:=rfl
@[go_sem] theorem Yv (H:AHeap)(i:Nat):(H.frz i).next=H.next:=(Pj H i).2
@[go_sem] theorem ZZ (H:AHeap)(i j:Nat):(H.frz i).get j=if j=i then (H.get i).map (λk=>{ k with fz:=true }) else H.get j:=by
 by_cases h:j=i
 .subst h
  unfold AHeap.frz
  cases a:H.get j<;>simp [AHeap.put,a]
 .rw [if_neg h,Jh H i j h]
structure Srch where
 t:Types
 p:Graph
 g:Graph
 pn:List Int
 pe:List Int
 inj:Bool
def US (y:Edge):List Int:=[y.type,y.from_,y.to_]
def yY (l:List Int)(i k:Nat):Bool:=decide (l[i]?.getD (-1)<0)||decide (l[i]?.getD (-1)=(k:Int))
def Ay (t:Types)(a b:Int):Bool:=mem (t.line b.toNat) a
def Xz (p:Graph)(ns:List Int)(i:Nat):Edge:=⟨(p.edges[i]?.getD b4).type,ns[(p.edges[i]?.getD b4).from_.toNat]?.getD 0,ns[(p.edges[i]?.getD b4).to_.toNat]?.getD 0⟩
def hitE (S:Srch)(ns:List Int)(i k:Nat):Bool:=decide (US (S.g.edges[k]?.getD b4)=US (Xz S.p ns i))
def okN (S:Srch)(l:List Int)(k:Nat):Bool:=yY S.pn l.length k&&(!(S.inj&&mem l k)&&Ay S.t (S.p.nodes[l.length]?.getD 0) (S.g.nodes[k]?.getD 0))
def okE (S:Srch)(ns l:List Int)(k:Nat):Bool:=yY S.pe l.length k&&(!(S.inj&&mem l k)&&hitE S ns l.length k)
def PY (S:Srch)(N:Nat)(ns:List Int):Nat->List Int->List Part->List Part
 | 0,l,ou=>if N<=ou.length then ou else ou++[⟨ns,l⟩]
 | d+1,l,ou=>if N<=ou.length then ou else (List.range S.g.edges.length).foldl (λou k=>if okE S ns l k=true then PY S N ns d (l++[(k:Int)]) ou else ou) ou
def Gc (S:Srch)(l:List Int)(i:Nat):Bool:=decide (max (S.p.edges[i]?.getD b4).from_ (S.p.edges[i]?.getD b4).to_≠(l.length:Int) - 1)||(List.range S.g.edges.length).any λk=>yY S.pe i k&&hitE S l i k
def sX (S:Srch)(l:List Int):Bool:=(List.range S.p.edges.length).all (Gc S l)
def Qa (S:Srch)(N:Nat):Nat->List Int->List Part->List Part
 | 0,l,ou=>if N<=ou.length then ou else PY S N l S.p.edges.length [] ou
 | d+1,l,ou=>if N<=ou.length then ou else (List.range S.g.nodes.length).foldl (λou k=>if (okN S l k&&sX S (l++[(k:Int)]))=true then Qa S N d (l++[(k:Int)]) ou else ou) ou
/-! ### all matches -/
def extE (S:Srch)(ns:List Int):Nat->List Int->List (List Int)
 | 0,l=>[l]
 | d+1,l=>((List.range S.g.edges.length).filter (okE S ns l)).flatMap λ(k:Nat)=>extE S ns d (l++[(k:Int)])
def extN (S:Srch):Nat->List Int->List Part
 | 0,l=>(extE S l S.p.edges.length []).map λes=>⟨l,es⟩
 | d+1,l=>((List.range S.g.nodes.length).filter (okN S l)).flatMap λ(k:Nat)=>extN S d (l++[(k:Int)])
def allM (S:Srch):List Part:=extN S S.p.nodes.length []
theorem CP {α:Type}(N:Nat)(a b:List α):((a.take N)++b).take N=(a++b).take N:=by
 rw [Ak,Ak,List.take_take,Nat.min_self]
 congr 1
 by_cases h:a.length<=N
 .rw [aY h]
 .rw [bQ,Nat.min_eq_left aD]
  rw [(aD:N - N=0),(aD:N - a.length=0)]
theorem z6 {α:Type}(N:Nat)(ok:Nat->Bool)(f:Nat->List α->List α)(x:Nat->List α)(hf:∀ k ou,ou.length<=N->f k ou=(ou++x k).take N) :
  ∀ (l:List Nat) (ou:List α),ou.length<=N->l.foldl (λou k=>if ok k=true then f k ou else ou) ou=(ou++(l.filter ok).flatMap x).take N
 | [],ou,h=>by simp [aY h]
 | k :: l,ou,h=>by
  rw [Bn]
  by_cases hk:ok k=true
  .rw [if_pos hk,hf k ou h,z6 N ok f x hf l _ (by simp;omega),CP,List.filter_cons_of_pos hk,iC,List.append_assoc]
  .rw [if_neg hk,z6 N ok f x hf l _ h,List.filter_cons_of_neg hk]
theorem zY {α:Type}{N:Nat}{a x:List α}(h:a.length<=N)(b:N<=a.length):a=(a++x).take N:=by
 rw [Ak,aY h,(aD:N - a.length=0)];simp
theorem Ol (S:Srch)(N:Nat)(ns:List Int):∀ (d:Nat) (l:List Int) (ou:List Part),ou.length<=N->PY S N ns d l ou=(ou++(extE S ns d l).map λes=>(⟨ns,es⟩:Part)).take N
 | 0,l,ou,h=>by
  simp only [PY,extE]
  split
  .rename_i h2;exact zY h h2
  .rw [aY (by simp;omega)];rfl
 | d+1,l,ou,h=>by
  simp only [PY,extE]
  split
  .rename_i h2;exact zY h h2
  .rw [z6 N (okE S ns l) (λk ou=>PY S N ns d (l++[(k:Int)]) ou) (λk=>(extE S ns d (l++[(k:Int)])).map λes=>(⟨ns,es⟩:Part)) (λk ou ho=>Ol S N ns d _ ou ho) _ _ h,List.map_flatMap]
theorem Ni {S:Srch}{ns:List Int}:∀ (d:Nat) (l es:List Int),es∈extE S ns d l->∀ i,l.length<=i->i<l.length+d->∃ k,k<S.g.edges.length/\yY S.pe i k=true/\hitE S ns i k=true
 | 0,l,es,_,i,h1,h2=>by omega
 | d+1,l,es,h,i,h1,h2=>by
  simp only [extE,bH,dL,aR] at h
  obtain ⟨k,⟨hk,ho⟩,hr⟩:=h
  by_cases hi:i=l.length
  .simp only [okE,aN] at ho
   exact ⟨k,hk,hi ▸ ho.1,hi ▸ ho.2.2⟩
  .exact Ni d _ es hr i (by simp;omega) (by simp;omega)
theorem Ch {S:Srch}:∀ (d:Nat) (l:List Int) (m:Part),m∈extN S d l->(∃ r,m.nodes=l++r)/\m.edges∈extE S m.nodes S.p.edges.length []
 | 0,l,m,h=>by
  simp only [extN,aQ] at h
  obtain ⟨es,he,rfl⟩:=h
  exact ⟨⟨[],by simp⟩,he⟩
 | d+1,l,m,h=>by
  simp only [extN,bH,dL,aR] at h
  obtain ⟨k,_,hr⟩:=h
  obtain ⟨⟨r,hr1⟩,hr2⟩:=Ch d _ m hr
  exact ⟨⟨(k:Int) :: r,by rw [hr1];simp⟩,hr2⟩
theorem UR {p:Graph}{l r:List Int}{i:Nat}(b:(p.edges[i]?.getD b4).from_.toNat<l.length)(a:(p.edges[i]?.getD b4).to_.toNat<l.length):Xz p (l++r) i=Xz p l i:=by
 unfold Xz
 rw [aT b,aT a]
theorem RU {S:Srch}(g:graphF S.p=0)(d:Nat)(l:List Int)(h:sX S l=false):extN S d l=[]:=by
 rw [xP]
 intro m j
 obtain ⟨⟨r,f⟩,n⟩:=Ch d l m j
 simp only [sX,List.all_eq_false,aR] at h
 obtain ⟨i,a,c⟩:=h
 have t:=((dF g).2 _ (aC a)).2
 simp only [Gc,aA a,Option.getD_some,cO,decide_eq_true_eq,not_or,aZ,aR,not_exists,not_and,ne_eq,iD,aN] at c
 obtain ⟨s,e⟩:=c
 obtain ⟨k,q,o,b⟩:=Ni _ _ _ n i (eJ _) (bS a)
 refine e k q o ?_
 unfold hitE at b ⊢
 rw [f,UR (by rw [aA a,Option.getD_some];omega) (by rw [aA a,Option.getD_some];omega)] at b
 exact b
theorem Ej {α:Type}(ok po:Nat->Bool)(x:Nat->List α)(h:∀ k,po k=false->x k=[]):∀ l:List Nat,(l.filter λk=>ok k&&po k).flatMap x=(l.filter ok).flatMap x
 | []=>rfl
 | k :: l=>by
  cases h1:ok k<;>cases h2:po k<;>simp [List.filter_cons,h1,h2,Ej ok po x h l,h k]
theorem OS {S:Srch}(hp:graphF S.p=0)(N:Nat):∀ (d:Nat) (l:List Int) (ou:List Part),ou.length<=N->Qa S N d l ou=(ou++extN S d l).take N
 | 0,l,ou,h=>by
  simp only [Qa]
  split
  .rename_i h2;exact zY h h2
  .rw [Ol S N l _ _ _ h];rfl
 | d+1,l,ou,h=>by
  simp only [Qa]
  split
  .rename_i h2;exact zY h h2
  .rw [z6 N (λk=>okN S l k&&sX S (l++[(k:Int)])) (λk ou=>Qa S N d (l++[(k:Int)]) ou) (λk=>extN S d (l++[(k:Int)])) (λk ou ho=>OS hp N d _ ou ho) _ _ h]
   rw [Ej (okN S l) (λk=>sX S (l++[(k:Int)])) _ λk hk=>RU hp d _ hk];rfl
theorem SA (S:Srch){N:Nat}(ns:List Int)(d:Nat)(l:List Int){a:List Part}(h:a.length<=N):(PY S N ns d l a).length<=N:=by
 rw [Ol S N ns d l a h];exact List.length_take_le _ _
theorem OR {S:Srch}(b:graphF S.p=0){N:Nat}(d:Nat)(l:List Int){a:List Part}(h:a.length<=N):(Qa S N d l a).length<=N:=by
 rw [OS b N d l a h];exact List.length_take_le _ _
theorem LD {S:Srch}{N:Nat}(ns:List Int)(d:Nat)(l:List Int){a:List Part}(h:N<=a.length):PY S N ns d l a=a:=by cases d<;>simp only [PY,if_pos h]
def H5 (l:List Attr)(vs:List Int)(k:Nat):Int:=if vs[k]?.getD 0<(l[k]?.getD mQ).low\/(l[k]?.getD mQ).high<vs[k]?.getD 0 then 6 else 0
def jR (t:Types)(kind:Int)(vs:List Int):Int :=
 if (t.nodes.length:Int)<=kind then 6 else if k7 t kind.toNat=true then 13 else if vs.length≠(bM t kind).length then 20 else bT (H5 (bM t kind) vs) 0 (bM t kind).length
def kH (f:Nat->Int):Nat->Nat->Int × Int
 | k,0=>(-1,0)
 | k,n+1=>if f k≠0 then ((k:Int),f k) else kH f (k+1) n
theorem Cf (f:Nat->Int){k n:Nat}(h:k<n):kH f k (n - k)=if f k≠0 then ((k:Int),f k) else kH f (k+1) (n - (k+1)):=by
 obtain ⟨m,a⟩:∃ m,n - k=m+1:=⟨n - k - 1,aD⟩
 rw [a,(aD:n - (k+1)=m)];rfl
theorem tF (f:Nat->Int):∀ n k,(kH f k n).2=bT f k n
 | 0,k=>rfl
 | n+1,k=>by simp only [kH,bT];split<;>simp_all [tF f n]
def Pf (t:Types)(h:Host)(i:Nat):Int:=jR t (h.graph.nodes[i]?.getD 0) (h.values[i]?.getD [])
def Vs (t:Types)(h:Host)(i:Nat):Int:=if (t.edges.length:Int)<=(h.graph.edges[i]?.getD b4).type then 6 else
 if kS t (h.graph.edges[i]?.getD b4).type (gN h.graph (h.graph.edges[i]?.getD b4).from_) (gN h.graph (h.graph.edges[i]?.getD b4).to_)=true then 0 else 13
def yT (t:Types)(h:Host):Int × Int :=
 if (cH t).2≠0 then (-1,(cH t).2) else if graphF h.graph≠0 then (-1,graphF h.graph) else if h.values.length≠h.graph.nodes.length then (-1,20)
 else if (kH (Pf t h) 0 h.graph.nodes.length).2≠0 then kH (Pf t h) 0 h.graph.nodes.length else kH (Vs t h) 0 h.graph.edges.length
def fA (t:Types)(h:Host):Int:=(yT t h).2
structure G17 (t:Types) (p g:Graph):Prop where
 v:t.valid
 gp:graphF p=0
 gg:graphF g=0
 tp:∀ a∈p.nodes,0<=a/\a<t.nodes.length
 tg:∀ a∈g.nodes,0<=a/\a<t.nodes.length
theorem Fm {t:Types}{g:Graph}(h:kT t g=true):∀ a∈g.nodes,0<=a/\a<t.nodes.length:=λa ha=>by
 simp only [kT,aN,cG,jP,insideF,Bool.not_eq_true,Bool.not_eq_false',decide_eq_true_eq] at h
 have:=h.1 a ha
 simpa using this
theorem o8 {t:Types}{p g:Graph}(h:dM t p g=0):G17 t p g:=by
 unfold dM at h
 split at h
 .exact absurd h (by assumption)
 .rename_i h1
  split at h
  .exact absurd h (by assumption)
  .rename_i h2
   split at h
   .exact absurd h (by assumption)
   .rename_i h3
    split at h
    .cases h
    .rename_i h4
     simp only [cO,cG,not_or,Bool.not_eq_false] at h4
     exact ⟨mR (bS h1),by simpa using h2,by simpa using h3,Fm h4.1,Fm h4.2⟩
def mNE (t:Types)(p g:Graph)(m:Part)(i:Nat):Int :=
 if m.nodes[i]?.getD 0<0\/(g.nodes.length:Int)<=m.nodes[i]?.getD 0 then 6
 else if Ay t (p.nodes[i]?.getD 0) (g.nodes[(m.nodes[i]?.getD 0).toNat]?.getD 0)=true then 0 else 13
def matchE (t:Types)(p g:Graph)(m:Part)(inj:Bool):Int :=
 if m.nodes.length≠p.nodes.length\/m.edges.length≠p.edges.length then 20
 else if bT (mNE t p g m) 0 p.nodes.length≠0 then bT (mNE t p g m) 0 p.nodes.length
 else if bT (mapEE p g m) 0 p.edges.length≠0 then bT (mapEE p g m) 0 p.edges.length
 else if inj=true/\(¬ m.nodes.Nodup\/¬ m.edges.Nodup) then 5 else 0
def checkE (t:Types)(p g:Graph)(m:Part)(inj:Bool):Int:=if dM t p g≠0 then dM t p g else matchE t p g m inj
def Srch.cells (S:Srch)(most:Int)(fd:D):List D:=[.list (S.t.nodes.map NodeTy.c),.list (S.t.edges.map EdgeTy.c),dLI S.p.nodes,.list (S.p.edges.map Edge.c),dLI S.g.nodes,.list (S.g.edges.map Edge.c),dLI S.pn,dLI S.pe,.bool S.inj,dI most,fd]
theorem Ql (a b:Int):(a==b)=decide (a=b):=by rw [aX];simp
theorem Ho (f:Nat->Bool)(k:Nat):(List.range (k+1)).any f=((List.range k).any f||f k):=by rw [bK,Bp];simp
structure SrS (f o:Nat) (S:Srch) (most:Nat) (out:List Part) (H:AHeap):Prop where
 bf:H.get f=some ⟨414,11,[S.cells most (.own o out.length)],false⟩
 bo:H.get o=some ⟨36,2,out.map Part.c,false⟩
 le:out.length<=most+1
@[go_sem] theorem Gi (l:List Part):D.clLL (l.map Part.c)=true:=c8 _ (λp=>by simp [Part.c,D.clL,oF]) l
@[go_sem] theorem YV {n:Nat}{c:List D}(h:D.clL c=true):D.clLL (List.replicate n c)=true:=by
 induction n with
 | zero=>rfl
 | succ n ih=>simp [sJ,D.clLL,h,ih]
theorem SZ (l:List Part):eI (l.map Part.c)=l.map Part.c:=kI λc hc=>by
 rw [aQ] at hc;obtain ⟨x,_,rfl⟩:=hc
 simp [Part.c,kJ,oM,dLI,fZ]
def dE (x:Term)(vs:List Int):Int:=if x.var<0 then x.add else vs[x.var.toNat]?.getD 0+x.add
def Sm (vs:List Int):Prop:=∀ v∈vs,-4000000<=v/\v<=4000000
theorem Sm.get {vs:List Int}(h:Sm vs){k:Nat}(hk:k<vs.length) : -4000000<=vs[k]/\vs[k]<=4000000:=h _ (aC hk)
def sF (x:Term)(n:Nat):Prop:=(-1<=x.var/\x.var<n)/\(-1000000<=x.add/\x.add<=1000000)
def Oc (x:Test)(vs:List Int):Bool:=(decide (x.kind=1)&&decide (dE x.left vs<=dE x.right vs))||(decide (x.kind=2)&&decide (dE x.left vs=dE x.right vs))
def PT (x:Test)(n:Nat):Prop:=(x.kind=1\/x.kind=2)/\sF x.left n/\sF x.right n
def haveV (h:Host)(m:Part)(s:Slot):Int:=(h.values[(m.nodes[s.node.toNat]?.getD 0).toNat]?.getD [])[s.attr.toNat]?.getD 0
def rZ (st:List Int × List Bool)(s:Slot):Bool:=decide (0<=s.term.var)&&!(st.2[s.term.var.toNat]?.getD false)
def nE (h:Host)(m:Part)(st:List Int × List Bool)(s:Slot):List Int × List Bool :=
 if rZ st s=true then (st.1.set s.term.var.toNat (haveV h m s - s.term.add),st.2.set s.term.var.toNat true) else st
def slotsV (h:Host)(m:Part):List Int × List Bool->List Slot->Option (List Int × List Bool)
 | st,[]=>some st
 | st,s :: l=>if dE s.term (nE h m st s).1=haveV h m s then slotsV h m (nE h m st s) l else none
theorem x7 (h:Host)(m:Part)(s:Slot):∀ (l:List Slot) (st:List Int × List Bool),slotsV h m st (l++[s])=(slotsV h m st l).bind λq=>if dE s.term (nE h m q s).1=haveV h m s then some (nE h m q s) else none
 | [],st=>by simp [slotsV]
 | a :: l,st=>by
  simp only [gU,slotsV]
  split
  .exact x7 h m s l _
  .rfl
theorem DN (h:Host)(m:Part):∀ (l r:List Slot) (st:List Int × List Bool),slotsV h m st l=none->slotsV h m st (l++r)=none
 | [],r,st,hn=>by simp [slotsV] at hn
 | a :: l,r,st,hn=>by
  simp only [gU,slotsV] at hn ⊢
  split at hn
  .rename_i he;rw [if_pos he];exact DN h m l r _ hn
  .rename_i he;rw [if_neg he]
theorem DM {h:Host}{m:Part}{l:List Slot}{i:Nat}(d:i<l.length){a q:List Int × List Bool}(c:slotsV h m a (l.take i)=some q) :
  (dE l[i].term (nE h m q l[i]).1=haveV h m l[i]->slotsV h m a (l.take (i+1))=some (nE h m q l[i]))/\(dE l[i].term (nE h m q l[i]).1≠haveV h m l[i]->slotsV h m a l=none):=by
 have e:l.take (i+1)=l.take i++[l[i]]:=List.take_succ_eq_append_getElem d
 refine ⟨λb=>?_,λb=>?_⟩
 .rw [e,x7,c];simp [b]
 .have hn:slotsV h m a (l.take (i+1))=none:=by rw [e,x7,c];simp [b]
  have:=DN h m _ (l.drop (i+1)) a hn
  rw [List.take_append_drop] at this;exact this
def fB (p:Pattern)(h:Host)(m:Part)(vs:List Int):List Int × Int :=
 match slotsV h m (vs++List.replicate (p.vars.toNat - vs.length) 0,List.replicate vs.length true++List.replicate (p.vars.toNat - vs.length) false) p.slots with
 | none=>([],11)
 | some q=>if p.tests.all (λx=>Oc x q.1)=true then (q.1,0) else ([],16)
end Go.Abs
end

/- Reorder, and the parts of drafts. · The graph and the tests  -/
import Derived.Test.YthalajhajpjjeaaGreatZhF
import Derived.Test.YthalajhajpjjeaaGreatZhA
import Derived.Test.YthalajhajpjjeaaGreatZhK
set_option linter.unusedVariables false
set_option linter.unusedSimpArgs false
section
set_option maxRecDepth 100000
set_option maxHeartbeats 4000000
open Go Go.Proofs
namespace Go.Abs
theorem tS (g:Graph)(k:g.nodes.length<=100000)(l:g.edges.length<=100000)(G:AHeap)(Q:D->AHeap->Prop)
  (i:∀ a b H',G.next<=a->G.next<=b->a≠b->a<H'.next->b<H'.next->H'.get a=some ⟨3,1,g.nodes.map cI,false⟩->H'.get b=some ⟨122,3,g.edges.map Edge.c,false⟩->(∀ j,j<G.next->H'.get j=G.get j)->G.next<=H'.next->Q (.agg [.own a g.nodes.length,.own b g.edges.length]) H'):ACalls Tryz.prog 157 [g.d] G Q:=by
 refine (aG (cfg:=⟨λt=>t==2||t==3||t==7,λr=>match r with|1=>[(0,1),(0,2),(0,4),(1,4),(2,4),(3,4),(0,5),(3,5),(4,5),(0,6),(3,6),(4,6)]|_=>[]⟩) Tz.mixed Tryz.func157 rfl rfl (aE rfl) (by kernel_rfl) ?_)
 have e:=Lf G.next
 have Y:=e
 refine wo (h:=?_)
 exact i _ _ _ (by first|omega|(simp [go_sem]<;>omega)|(simp [go_sem,e]<;>omega)) (by first|omega|(simp [go_sem]<;>omega)|(simp [go_sem,e]<;>omega)) (by first|omega|(simp [go_sem]<;>omega)|(simp [go_sem,e]<;>omega)) (by first|omega|(simp [go_sem]<;>omega)|(simp [go_sem,e]<;>omega)) (by first|omega|(simp [go_sem]<;>omega)|(simp [go_sem,e]<;>omega)) (by simp [go_sem,e]<;>omega) (by simp [go_sem,e]<;>omega) (λj f=>by simp [go_sem,b8 f]) (by first|omega|(simp [go_sem]<;>omega)|(simp [go_sem,e]<;>omega))
theorem AH (g:Graph)(hn:g.nodes.length<=100000)(he:g.edges.length<=100000)(p q:List Int)(hp:lK g.nodes.length p)(hq:lK g.edges.length q):Pure Tryz.prog 78 [g.d,Part.d ⟨p,q⟩] (.tup [(qD g p q).d,dI (graphF g)]):=by
 obtain ⟨h,a7,c0⟩:=hp
 obtain ⟨f,a6,b7⟩:=hq
 refine Tz.pK ⟨λt=>t==4||t==9||t==12,λ_=>[]⟩ Tryz.func78 rfl (λQ hQ=>?_)
 try simp [go_sem,seval,h,f]
 refine aB (lU g) ((by first|rfl|(simp [go_sem,<- List.map_take,<- List.map_drop,h,f];done))) ?_
 try simp [go_sem,seval,h,f]
 refine aP (λE=>?_) (λE=>?_)
 .try simp [go_sem] at E
  try simp [go_sem,seval,h,f]
  exact hQ _ _ (by first|(left;(simp [go_sem,qD,E]);done)|(right;(simp [go_sem,qD,E]);done))
 .try simp [go_sem] at E
  try simp [go_sem,seval,h,f]
  repeat first|intro _|refine ⟨eK,?_⟩
  refine aB (sU p (by rw [h];exact a7) c0) ((by first|rfl|(simp [go_sem,<- List.map_take,<- List.map_drop,h,f];done))) ?_
  try simp [go_sem,seval,h,f]
  repeat first|intro _|refine ⟨eK,?_⟩
  refine aB (sU q (by rw [f];exact a6) b7) ((by first|rfl|(simp [go_sem,<- List.map_take,<- List.map_drop,h,f];done))) ?_
  try simp [go_sem,seval,h,f]
  repeat first|intro _|refine ⟨eK,?_⟩
  unfold g5;refine tS g hn he _ _ (λa b O ha hb d1 d0 c8 n m c3 c7=>?_)
  have d3:(0:Nat)<O.next:=aD
  have d2:a≠0:=by simp [go_sem] at ha;omega
  have c9:b≠0:=by simp [go_sem] at hb;omega
  have l:=c3 0 (by simp [go_sem])
  simp [go_sem] at l
  have w:=Lf O.next
  have o:=And.intro (b8 (aD:a<O.next)) (And.intro (b8 (aD:b<O.next)) (b8 (aD:0<O.next)))
  have r:=And.intro (dG (aD:0≠b)) (And.intro (dG (aD:0≠a)) (dG (aD:b≠a)))
  try simp [go_sem,seval,h,f,o,r,n,m,l,w]
  repeat first|intro _|refine ⟨eK,?_⟩
  obtain ⟨I0,N⟩:∃ I0:Nat->dA->AHeap->Prop,∀ (i:Nat) (e:dA) (H:AHeap),I0 i e H↔(∃ c:Nat,(e 2=.adr g.c)/\(e 3=.adr [dLI p,dLI q])/\(e 4=.ptr 0 1 0 0)/\(e 9=.ptr c 1 0 0)/\(e 10=dI i)/\(H.get 0=some ⟨29,2,[[.nil,.nil]],false⟩)/\(0<H.next)/\(H.get c=some ⟨29,2,[[.own a g.nodes.length,.own b g.edges.length]],false⟩)/\(c<H.next)/\(H.get a=some ⟨3,1,(C2 p g.nodes i).map cI,false⟩)/\(a<H.next)/\(H.get b=some ⟨122,3,g.edges.map Edge.c,false⟩)/\(b<H.next)/\(i<=g.nodes.length)/\(a<c/\b<c)/\((C2 p g.nodes i).length=g.nodes.length)):=⟨λi e H=>_,λ_ _ _=>Iff.rfl⟩
  refine oR I0 (λi=>g.nodes.length - i) (0) ((N _ _ _).2 ⟨(O.next),?_,?_,?_,?_,?_,?_,?_,?_,?_,(by simp [go_sem,h,f,o,r,n,m,l,w,C2]),?_,?_,?_,(by first|assumption|omega|(simp [go_sem,h,f,o,r,n,m,l,w];done)|(simp_all;done)),aD,(by exact uN _ _ _)⟩) ?_
  iterate 12 (first|omega|(simp [go_sem,seval,h,f,o,r,n,m,l,w]<;>omega))
  intro i e H c2
  obtain ⟨c,X,V,T,R,K,b5,a5,a9,Z,b3,a3,b1,a1,hi,hc,j⟩:=(N _ _ _).1 c2
  have x0:=b8 a5
  have xc:=b8 Z
  have xa:=b8 a3
  have xb:=b8 a1
  have F:=And.intro X (And.intro V (And.intro T (And.intro R (And.intro K (And.intro b5 (And.intro a9 (And.intro b3 (And.intro b1 (And.intro x0 (And.intro xc (And.intro xa xb)))))))))))
  have s:=And.intro (dG (aD:0≠c)) (And.intro (dG (aD:0≠b)) (And.intro (dG (aD:0≠a)) (And.intro (dG (aD:c≠b)) (And.intro (dG (aD:c≠a)) (dG (aD:b≠a))))))
  try simp [go_sem,seval,h,f,o,r,n,m,l,w,F,j,s]
  repeat first|intro _|refine ⟨eK,?_⟩
  refine aP (λx=>?_) (λx=>?_)
  .try simp [go_sem] at x
   have B:i<p.length:=aD
   have c6:=a7 _ (aC B)
   have b9:p[i]?.getD 0=p[i]:=by rw [aA B];rfl
   have L:g.nodes[i]?.getD 0=g.nodes[i]:=by rw [aA x];rfl
   have G:p[i].toNat<(C2 p g.nodes i).length:=by rw [j];omega
   try simp [go_sem,seval,h,f,o,r,n,m,l,w,F,j,s,x,aA x,aA B,aA G,j]
   repeat first|intro _|refine ⟨eK,?_⟩
   refine dN (i+1) aD ((N _ _ _).2 ⟨(c),?_,?_,?_,?_,?_,?_,?_,?_,?_,(by simp [go_sem,h,f,o,r,n,m,l,w,F,j,s,x,aA x,aA B,aA G,j,C1,dU,b9,L]),?_,?_,?_,(by first|assumption|omega|(simp [go_sem,h,f,o,r,n,m,l,w,F,j,s,x,aA x,aA B,aA G,j,E];done)|(simp_all<;>omega)),aD,(by exact uN _ _ _)⟩)<;>first|omega|(simp [go_sem,seval,h,f,o,r,n,m,l,w,F,j,s,x,aA x,aA B,aA G,j]<;>omega)
  .try simp [go_sem] at x
   have hI:i=g.nodes.length:=aD
   rw [hI] at j
   try simp [go_sem,seval,h,f,o,r,n,m,l,w,F,j,s]
   obtain ⟨I2,M⟩:∃ I2:Nat->dA->AHeap->Prop,∀ (k:Nat) (e:dA) (H:AHeap),I2 k e H↔((e 2=.adr g.c)/\(e 3=.adr [dLI p,dLI q])/\(e 4=.ptr 0 1 0 0)/\(e 9=.ptr c 1 0 0)/\(e 11=dI k)/\(H.get 0=some ⟨29,2,[[.nil,.nil]],false⟩)/\(0<H.next)/\(H.get c=some ⟨29,2,[[.own a g.nodes.length,.own b g.edges.length]],false⟩)/\(c<H.next)/\(H.get a=some ⟨3,1,(C2 p g.nodes g.nodes.length).map cI,false⟩)/\(a<H.next)/\(H.get b=some ⟨122,3,(ED p q g.edges k).map Edge.c,false⟩)/\(b<H.next)/\(k<=g.edges.length)/\((ED p q g.edges k).length=g.edges.length)):=⟨λk e H=>_,λ_ _ _=>Iff.rfl⟩
   refine oR I2 (λk=>g.edges.length - k) (0) ((M _ _ _).2 ⟨?_,?_,?_,?_,?_,?_,?_,?_,?_,(by simp [go_sem,h,f,o,r,n,m,l,w,F,j,s,<- hI]),?_,(by simp [go_sem,h,f,o,r,n,m,l,w,F,j,s,ED]),?_,(by first|assumption|omega|(simp [go_sem,h,f,o,r,n,m,l,w,F,j,s];done)|(simp_all;done)),(by exact uO _ _ _ _)⟩) ?_
   iterate 11 (first|omega|(simp [go_sem,seval,h,f,o,r,n,m,l,w,F,j,s]<;>omega))
   intro k e H c1
   obtain ⟨W,U,S,P,J,b4,a4,a8,Y,b2,a2,b0,a0,hk,u⟩:=(M _ _ _).1 c1
   have x0:=b8 a4
   have xc:=b8 Y
   have xa:=b8 a2
   have xb:=b8 a0
   have I:=And.intro W (And.intro U (And.intro S (And.intro P (And.intro J (And.intro b4 (And.intro a8 (And.intro b2 (And.intro b0 (And.intro x0 (And.intro xc (And.intro xa xb)))))))))))
   have y:=And.intro (dG (aD:0≠c)) (And.intro (dG (aD:0≠b)) (And.intro (dG (aD:0≠a)) (And.intro (dG (aD:c≠b)) (And.intro (dG (aD:c≠a)) (dG (aD:b≠a))))))
   try simp [go_sem,seval,h,f,o,r,n,m,l,w,j,s,I,u,y]
   repeat first|intro _|refine ⟨eK,?_⟩
   refine aP (λv=>?_) (λv=>?_)
   .try simp [go_sem] at v
    have z:k<q.length:=aD
    have c5:=a6 _ (aC z)
    have hg:=dF E
    have hE:=hg.2 _ (aC v)
    have C:g.edges[k].from_.toNat<p.length:=aD
    have A:g.edges[k].to_.toNat<p.length:=aD
    have b6:q[k]?.getD 0=q[k]:=by rw [aA z];rfl
    have L:g.edges[k]?.getD ⟨0,0,0⟩=g.edges[k]:=by rw [aA v];rfl
    have c4:Kd p g.edges[k]=⟨g.edges[k].type,p[g.edges[k].from_.toNat],p[g.edges[k].to_.toNat]⟩:=by unfold Kd;rw [aA C,aA A];rfl
    have D:q[k].toNat<(ED p q g.edges k).length:=by rw [u];omega
    have w:=Lf H.next
    try simp [go_sem,seval,h,f,o,r,n,m,l,w,j,s,I,u,y,v,aA v,aA z,aA D,aA C,aA A,w,u]
    repeat first|intro _|refine ⟨eK,?_⟩
    refine dN (k+1) aD ((M _ _ _).2 ⟨?_,?_,?_,?_,?_,?_,?_,?_,?_,(by simp [go_sem,h,f,o,r,n,m,l,w,j,s,I,u,y,v,aA v,aA z,aA D,aA C,aA A,w,u]),?_,(by simp [go_sem,h,f,o,r,n,m,l,w,j,s,I,u,y,v,aA v,aA z,aA D,aA C,aA A,w,u,C3,dU,b6,L,c4,Edge.c]),?_,(by first|assumption|omega|(simp [go_sem,h,f,o,r,n,m,l,w,j,s,I,u,y,v,aA v,aA z,aA D,aA C,aA A,w,u,E,x];done)|(simp_all<;>omega)),(by exact uO _ _ _ _)⟩)<;>first|omega|(simp [go_sem,seval,h,f,o,r,n,m,l,w,j,s,I,u,y,v,aA v,aA z,aA D,aA C,aA A,w,u]<;>omega)
   .try simp [go_sem] at v
    have hK:k=g.edges.length:=aD
    rw [hK] at u
    try simp [go_sem,seval,h,f,o,r,n,m,l,w,j,s,I,u,y]
    exact hQ _ _ (by first|(left;(simp [go_sem,h,f,o,r,n,m,l,w,j,s,I,u,y,qD,E,hK]);done)|(right;(simp [go_sem,h,f,o,r,n,m,l,w,j,s,I,u,y,qD,E,hK]);done))
def remF (a b:Int):Int:=(a.tmod b+b).tmod b
theorem Br (a:Int){b:Int}(c:0<b) : -b<a.tmod b/\a.tmod b<b:=by
 refine ⟨?_,Int.tmod_lt_of_pos _ c⟩
 rcases Int.le_total 0 a with h|h
 .have:=Int.tmod_nonneg b h;omega
 .have h1:(-a).tmod b = -(a.tmod b):=Int.neg_tmod _ _
  have:=Int.tmod_lt_of_pos (-a) c
  omega
theorem zO (a:Int){b:Int}(c:0<b):0<=remF a b/\remF a b<b:=by
 have:=Br a c
 exact b7 aD c
theorem qE (a b:Int)(e:0<b/\b<=1000000):Pure Tryz.prog 343 [dI a,dI b] (dI (remF a b)):=by
 have d:=Br a e.1
 have c:b≠0:=aD
 refine Tz.pK ⟨λ_=>false,λ_=>[]⟩ Tryz.func343 rfl (λQ f=>?_)
 have Y:=c
 have Y:=wa Y @remF.eq_1
 exact wo (h:=f _ _ wy)
abbrev T4:=Int8 × Int8 × Int8 × Int8
def cT4 (x:T4):List D:=[.int .i8 x.1.toInt,.int .i8 x.2.1.toInt,.int .i8 x.2.2.1.toInt,.int .i8 x.2.2.2.toInt]
@[go_sem] theorem QC (l:List T4):D.clLL (l.map cT4)=true:=c8 _ (λ_=>rfl) l
theorem Qn (x:Int8) : -128<=x.toInt/\x.toInt<=127:=by
 have b:=x.le_toInt
 have a:=x.toInt_lt
 omega
def made3 (v:Int)(x:T4):Test:=⟨1+(remF x.1.toInt 4).tdiv 3,⟨remF x.2.1.toInt (v+1) - 1,0⟩,⟨remF x.2.2.1.toInt (v+1) - 1,x.2.2.2.toInt.tmod 12⟩⟩
theorem OQ (v:Int)(i:0<=v/\v<=1000)(x:T4):Pure Tryz.prog 261 [dI v,.agg (cT4 x)] (.agg (made3 v x).c):=by
 have m:=Qn x.1
 have l:=Qn x.2.1
 have k:=Qn x.2.2.1
 have j:=Qn x.2.2.2
 have a:=zO x.1.toInt (aD:(0:Int)<4)
 have g:=zO x.2.1.toInt (aD:0<v+1)
 have f:=zO x.2.2.1.toInt (aD:0<v+1)
 have e:=Br x.2.2.2.toInt (aD:(0:Int)<12)
 have d:=Ue a.1 (aD:(0:Int)<3)
 refine Tz.pK ⟨λt=>t==4,λ_=>[]⟩ Tryz.func261 rfl (λQ b=>?_)
 have Y:=@cT4.eq_1
 refine wo (h:=aB (qE x.1.toInt 4 aD) wl ?_)
 refine wo (h:=aM (qE x.2.1.toInt (v+1) aD) wl ?_)
 refine wo (h:=aM (qE x.2.2.1.toInt (v+1) aD) wl ?_)
 have Y:=wa Y (wa @made3.eq_1 @Test.c.eq_1)
 exact wo (h:=b _ _ wy)
def u0 (g:Graph)(nb eb:List Bool)(k:Nat):List Bool:=(List.range k).foldl (λacc i=>if eb[i]?.getD false=true then (acc.set (g.edges[i]?.getD ⟨0,0,0⟩).from_.toNat true).set (g.edges[i]?.getD ⟨0,0,0⟩).to_.toNat true else acc) nb
theorem rD (g:Graph)(nb a:List Bool)(k:Nat):u0 g nb a (k+1)=if a[k]?.getD false=true then ((u0 g nb a k).set (g.edges[k]?.getD ⟨0,0,0⟩).from_.toNat true).set (g.edges[k]?.getD ⟨0,0,0⟩).to_.toNat true else u0 g nb a k:=by
 simp only [u0,bK,jO,Bn,List.foldl_nil]
theorem rU (g:Graph)(nb eb:List Bool):∀ k,(u0 g nb eb k).length=nb.length
 | 0=>rfl
 | k+1=>by
  rw [rD];split
  .rw [c7,c7,rU g nb eb k]
  .exact rU g nb eb k
def Graph.ends (g:Graph):Prop:=∀ x∈g.edges,(0<=x.from_/\x.from_<g.nodes.length)/\0<=x.to_/\x.to_<g.nodes.length
theorem Mf (g:Graph)(I:g.nodes.length<=100000)(K:g.edges.length<=100000)(u:g.ends)(nb f:List Bool)(h:nb.length=g.nodes.length)(w:f.length=g.edges.length) :
  Pure Tryz.prog 262 [g.d,.list (nb.map cB),.list (f.map cB)] (Part.d ⟨AK (u0 g nb f g.edges.length),AK f⟩):=by
 refine Tz.pK ⟨λt=>t==6||t==9,λ_=>[]⟩ Tryz.func262 rfl (λQ E=>?_)
 have a:(∀ c∈nb.map cB,c.length=1)=True:=eq_true (by intro c B;rw [aQ] at B;obtain ⟨b,_,rfl⟩:=B;rfl)
 have Y:=wa h w
 try simp [go_sem,seval,Y,↓a]
 repeat first|intro _|refine ⟨eK,?_⟩
 refine bV (λi e H=>(e 3=.adr g.c/\e 2=.list (f.map cB)/\e 6=.ptr 0 1 0 0/\e 7=.own 1 g.nodes.length/\e 8=dI i)/\(H.get 0=some ⟨35,2,[[.nil,.nil]],false⟩)/\(0<H.next)/\(H.get 1=some ⟨4,1,(u0 g nb f i).map cB,false⟩)/\(1<H.next)/\(i<=g.edges.length)/\((u0 g nb f i).length=g.nodes.length)) (λi=>g.edges.length - i) 0 ⟨(by and_intros<;>first|omega|(simp [go_sem,seval,Y,↓a]<;>omega)),((by first|omega|(simp [go_sem,seval,Y,↓a]<;>omega))),((by first|omega|(simp [go_sem,seval,Y,↓a]<;>omega))),(by simp [go_sem,u0]),((by first|omega|(simp [go_sem,seval,Y,↓a]<;>omega))),(by first|assumption|omega|(simp [go_sem,Y,↓a];done)|(simp_all;done)),(by rw [rU];exact h)⟩ λL o i e H v=>?_
 obtain ⟨F,q,l,p,k,J,s⟩:=v
 have Y:=wa Y (wa F (wa q (wa (b8 l) (wa p (wa (b8 k) s)))))
 try simp [go_sem,seval,Y,↓a]
 repeat first|intro _|refine ⟨eK,?_⟩
 refine wq (λj=>?_) λj=>?_
 .have hib:i<f.length:=aD
  have n:f[i]?.getD false=f[i]:=by rw [aA hib];rfl
  have G:=u _ (aC j)
  have r:g.edges[i]?.getD ⟨0,0,0⟩=g.edges[i]:=by rw [aA j];rfl
  have A:g.edges[i].from_.toNat<(u0 g nb f i).length:=by rw [s];omega
  have y:g.edges[i].to_.toNat<(u0 g nb f i).length:=by rw [s];omega
  obtain ⟨z,C⟩:∃ z,(((u0 g nb f i).map cB).set g.edges[i].from_.toNat [D.bool true])[g.edges[i].to_.toNat]?=some [z]:=by
   rw [cE]
   by_cases m:g.edges[i].from_.toNat=g.edges[i].to_.toNat
   .rw [if_pos m,if_pos (by rw [aS];exact A)];exact ⟨_,rfl⟩
   .rw [if_neg m,aH,aA y];exact ⟨_,rfl⟩
  have Y:=wa Y (wa j (wa (aA j) (wa (aA hib) (wa (aA A) (wa (aA y) (wa r C))))))
  try simp [go_sem,seval,Y,↓a]
  repeat first|intro _|refine ⟨eK,?_⟩
  refine wq (λx=>?_) λx=>?_
  .have Y:=wa Y x
   try simp [go_sem,seval,Y,↓a]
   repeat first|intro _|refine ⟨eK,?_⟩
   exact wx o (i+1) ⟨(by and_intros<;>first|omega|(simp [go_sem,seval,Y,↓a]<;>omega)),((by first|omega|(simp [go_sem,seval,Y,↓a]<;>omega))),((by first|omega|(simp [go_sem,seval,Y,↓a]<;>omega))),(by simp [go_sem,Y,↓a,rD,n]),((by first|omega|(simp [go_sem,seval,Y,↓a]<;>omega))),(by first|assumption|omega|(simp [go_sem,Y,↓a];done)|(simp_all<;>omega)),(by rw [rU];exact h)⟩
  .have Y:=wa Y x
   try simp [go_sem,seval,Y,↓a]
   repeat first|intro _|refine ⟨eK,?_⟩
   exact wx o (i+1) ⟨(by and_intros<;>first|omega|(simp [go_sem,seval,Y,↓a]<;>omega)),((by first|omega|(simp [go_sem,seval,Y,↓a]<;>omega))),((by first|omega|(simp [go_sem,seval,Y,↓a]<;>omega))),(by simp [go_sem,Y,↓a,rD,n]),((by first|omega|(simp [go_sem,seval,Y,↓a]<;>omega))),(by first|assumption|omega|(simp [go_sem,Y,↓a];done)|(simp_all<;>omega)),(by rw [rU];exact h)⟩
 .have hI:i=g.edges.length:=aD
  subst hI
  try simp [go_sem,seval,Y,↓a]
  refine Ep (BL (u0 g nb f g.edges.length) (by rw [rU];omega)) (by (simp [go_sem,Y,↓a])<;>rfl) (by first|rfl|(simp [go_sem,<- List.map_take,<- List.map_drop,Y,↓a];done)) (by (simp [go_sem,Y,↓a])<;>rfl) ?_
  try simp [go_sem,seval,Y,↓a]
  refine aB (BL f aD) (by first|rfl|(simp [go_sem,<- List.map_take,<- List.map_drop,Y,↓a];done)) ?_
  try simp [go_sem,seval,Y,↓a]
  have Y:=wa Y j
  exact E _ _ (by simp [go_sem,Y,↓a]<;>first|omega|(rw [aX];simp<;>omega)|(simp_all<;>omega))
def TF (k:UInt64)(i:Nat):Bool:=(k.toNat:Int).fdiv (2 ^ (min ((i:Int).tmod 64).toNat 64)) % 2==1
def wJ (k:UInt64)(off n:Nat):List Bool:=(List.range n).map λj=>TF k (off+j)
def Ax (k:UInt64)(off n i:Nat):List Bool:=(List.range n).map λj=>decide (j<i)&&TF k (off+j)
theorem JA (k:UInt64)(a n:Nat):Ax k a n 0=List.replicate n false:=by
 unfold Ax;apply eZ;intro j
 rw [aH,nT]
 by_cases h:j<n
 .rw [dZ h,if_pos h];simp
 .rw [bE (bS h),if_neg h];rfl
theorem y8 (k:UInt64)(a n i:Nat):(Ax k a n i).length=n:=by simp [Ax]
theorem NG (k:UInt64)(a n:Nat):Ax k a n n=wJ k a n:=by
 unfold Ax wJ
 exact bW λj b=>by simp [aR.1 b]
theorem NF {k:UInt64}{a n i:Nat}(h:i<n):(Ax k a n i).set i (TF k (a+i))=Ax k a n (i+1):=by
 apply eZ;intro j
 rw [cE,y8]
 by_cases c:i=j
 .subst c;simp [h,Ax,dZ h]
 .rw [if_neg c]
  simp only [Ax,aH]
  by_cases b:j<n
  .rw [dZ b];simp only [c6]
   rw [show decide (j<i+1)=decide (j<i) by rw [decide_eq_decide];omega]
  .rw [bE (bS b)];rfl
def wZ (g:Graph)(k:UInt64):Part:=⟨AK (u0 g (wJ k 0 g.nodes.length) (wJ k g.nodes.length g.edges.length) g.edges.length),AK (wJ k g.nodes.length g.edges.length)⟩
theorem OL (g:Graph)(hn:g.nodes.length<=100000)(he:g.edges.length<=100000)(Y:g.ends)(k:UInt64):Pure Tryz.prog 166 [g.d,.int .u64 (k.toNat:Int)] (Part.d (wZ g k)):=by
 refine Tz.pK ⟨λt=>t==4||t==12||t==16,λr=>match r with|1=>[(3,4),(3,5),(3,6),(0,7),(1,7),(2,7),(3,7)]|_=>[]⟩ Tryz.func166 rfl (λQ hQ=>?_)
 try simp [go_sem,seval]
 repeat first|intro _|refine ⟨eK,?_⟩
 obtain ⟨I0,u⟩:∃ I0:Nat->dA->AHeap->Prop,∀ (i:Nat) (e:dA) (H:AHeap),I0 i e H↔((e 2=.adr g.c)/\(e 1=.int .u64 (k.toNat:Int))/\(e 4=.ptr 0 1 0 0)/\(e 5=.own 4 g.nodes.length)/\(e 6=.own 8 g.edges.length)/\(e 7=dI i)/\(H.get 0=some ⟨35,2,[[.nil,.nil]],false⟩)/\(0<H.next)/\(H.get 4=some ⟨4,1,(Ax k 0 g.nodes.length i).map cB,false⟩)/\(4<H.next)/\(H.get 8=some ⟨4,1,(List.replicate g.edges.length false).map cB,false⟩)/\(8<H.next)/\(i<=g.nodes.length)/\((Ax k 0 g.nodes.length i).length=g.nodes.length)):=⟨λi e H=>_,λ_ _ _=>Iff.rfl⟩
 refine oR I0 (λi=>g.nodes.length - i) (0) ((u _ _ _).2 ⟨?_,?_,?_,?_,?_,?_,?_,?_,(by simp [go_sem,JA,cB]),?_,(by simp [go_sem,cB]),?_,(by first|assumption|omega|(simp [go_sem];done)|(simp_all;done)),(by exact y8 _ _ _ _)⟩) ?_
 iterate 10 (first|omega|(simp [go_sem,seval]<;>omega))
 intro i e H a0
 obtain ⟨E,G,C,A,y,w,U,N,S,L,P,J,hi,a⟩:=(u _ _ _).1 a0
 have X:=b8 N
 have W:=b8 L
 have V:=b8 J
 have p:=And.intro E (And.intro G (And.intro C (And.intro A (And.intro y (And.intro w (And.intro U (And.intro S (And.intro P (And.intro X (And.intro W V))))))))))
 try simp [go_sem,seval,p,a]
 repeat first|intro _|refine ⟨eK,?_⟩
 refine aP (λf=>?_) (λf=>?_)
 .try simp [go_sem] at f
  have tm:=b7 (aD:0<=(i:Int)) (aD:(0:Int)<64)
  have o:i<(Ax k 0 g.nodes.length i).length:=by rw [a];exact f
  try simp [go_sem,seval,p,a,f,aA o,f]
  repeat first|intro _|refine ⟨eK,?_⟩
  refine dN (i+1) aD ((u _ _ _).2 ⟨?_,?_,?_,?_,?_,?_,?_,?_,(by simp [go_sem,p,a,f,aA o,f,<- NF f,dU,TF,cB]),?_,(by simp [go_sem,p,a,f,aA o,f]),?_,(by first|assumption|omega|(simp [go_sem,p,a,f,aA o,f];done)|(simp_all<;>omega)),(by exact y8 _ _ _ _)⟩)<;>first|omega|(simp [go_sem,seval,p,a,f,aA o,f]<;>omega)
 .try simp [go_sem] at f
  have hI:i=g.nodes.length:=aD
  subst hI
  have b:=NG k 0 g.nodes.length
  rw [b] at a
  try simp [go_sem,seval,p,a,b]
  obtain ⟨I2,s⟩:∃ I2:Nat->dA->AHeap->Prop,∀ (j:Nat) (e:dA) (H:AHeap),I2 j e H↔((e 2=.adr g.c)/\(e 1=.int .u64 (k.toNat:Int))/\(e 4=.ptr 0 1 0 0)/\(e 5=.own 4 g.nodes.length)/\(e 6=.own 8 g.edges.length)/\(e 8=dI j)/\(H.get 0=some ⟨35,2,[[.nil,.nil]],false⟩)/\(0<H.next)/\(H.get 4=some ⟨4,1,(wJ k 0 g.nodes.length).map cB,false⟩)/\(4<H.next)/\(H.get 8=some ⟨4,1,(Ax k g.nodes.length g.edges.length j).map cB,false⟩)/\(8<H.next)/\(j<=g.edges.length)/\((Ax k g.nodes.length g.edges.length j).length=g.edges.length)):=⟨λj e H=>_,λ_ _ _=>Iff.rfl⟩
  refine oR I2 (λj=>g.edges.length - j) (0) ((s _ _ _).2 ⟨?_,?_,?_,?_,?_,?_,?_,?_,(by simp [go_sem,p,a,b]),?_,(by simp [go_sem,p,a,b,JA]),?_,(by first|assumption|omega|(simp [go_sem,p,a,b];done)|(simp_all;done)),(by exact y8 _ _ _ _)⟩) ?_
  iterate 10 (first|omega|(simp [go_sem,seval,p,a,b]<;>omega))
  intro j e H Z
  obtain ⟨D,F,B,z,x,v,T,M,R,K,O,I,hj,h⟩:=(s _ _ _).1 Z
  have X:=b8 M
  have W:=b8 K
  have V:=b8 I
  have m:=And.intro D (And.intro F (And.intro B (And.intro z (And.intro x (And.intro v (And.intro T (And.intro R (And.intro O (And.intro X (And.intro W V))))))))))
  try simp [go_sem,seval,a,b,m,h]
  repeat first|intro _|refine ⟨eK,?_⟩
  refine aP (λl=>?_) (λl=>?_)
  .try simp [go_sem] at l
   have tm:=b7 (aD:0<=(g.nodes.length:Int)+(j:Int)) (aD:(0:Int)<64)
   have n:j<(Ax k g.nodes.length g.edges.length j).length:=by rw [h];exact l
   try simp [go_sem,seval,a,b,m,h,l,aA n,l]
   repeat first|intro _|refine ⟨eK,?_⟩
   refine dN (j+1) aD ((s _ _ _).2 ⟨?_,?_,?_,?_,?_,?_,?_,?_,(by simp [go_sem,a,b,m,h,l,aA n,l]),?_,(by simp [go_sem,a,b,m,h,l,aA n,l,<- NF l,dU,TF,cB]),?_,(by first|assumption|omega|(simp [go_sem,a,b,m,h,l,aA n,l,f];done)|(simp_all<;>omega)),(by exact y8 _ _ _ _)⟩)<;>first|omega|(simp [go_sem,seval,a,b,m,h,l,aA n,l]<;>omega)
  .try simp [go_sem] at l
   have hJ:j=g.edges.length:=aD
   subst hJ
   have q:=NG k g.nodes.length g.edges.length
   rw [q] at h
   try simp [go_sem,seval,a,b,m,h,q]
   refine Ep (Mf g hn he Y (wJ k 0 g.nodes.length) (wJ k g.nodes.length g.edges.length) (by simp [wJ]) (by simp [wJ])) (by (simp [go_sem,a,b,m,h,q])<;>rfl) ((by first|rfl|(simp [go_sem,<- List.map_take,<- List.map_drop,a,b,m,h,q];done))) (by (simp [go_sem,a,b,m,h,q])<;>rfl) ?_
   try simp [go_sem,seval,a,b,m,h,q]
   exact hQ _ _ (by first|(left;(simp [go_sem,a,b,m,h,q,wZ]);done)|(right;(simp [go_sem,a,b,m,h,q,wZ]);done))
def DC (t:Types)(ns:List Int)(k:Int)(i:Nat):Bool:=mem (t.line (ns[i]?.getD 0).toNat) k
def uA (t:Types)(ns:List Int)(k:Int):List Int:=((List.range ns.length).filter (DC t ns k)).map λ(i:Nat)=>(i:Int)
theorem DU (t:Types)(x:t.valid)(g:Graph)(B:g.nodes.length<=100000)(r:∀ a∈g.nodes,0<=a/\a<t.nodes.length)(k:Int)(y:0<=k):Own Tryz.prog 342 [t.d,g.d,dI k] 3 1 ((uA t g.nodes k).map cI):=by
 refine Tz.oK ⟨λt=>t==7,λ_=>[]⟩ Tryz.func342 rfl (λQ z=>?_)
 have Y:=trivial
 refine wv (h:=bV (λi e H=>∃ f:List Int,(e 3=.adr t.c/\e 4=.adr g.c/\e 2=dI k/\e 7=.own 0 f.length/\e 8=dI i)/\(H.get 0=some ⟨3,1,f.map cI,false⟩)/\(0<H.next)/\(i<=g.nodes.length)/\(f.length<=i)/\(f=((List.range i).filter (DC t g.nodes k)).map (λ(b:Nat)=>(b:Int)))) (λi=>g.nodes.length - i) 0 ⟨([]),wg,wn,wn,wi,aF,(by rfl)⟩ λD l i e H q=>?_)
 obtain ⟨f,A,n,j,C,w,o⟩:=q
 have Y:=wa Y (wa A (wa n (b8 j)))
 refine f9 (λm=>?_) λm=>?_
 .have hx:=r _ (aC m)
  have p:((g.nodes[i].toNat:Nat):Int)=g.nodes[i]:=aD
  have s:DC t g.nodes k i=mem (t.line g.nodes[i].toNat) k:=by simp [DC,aA m]
  have Y:=wa Y (wa m (wa (aA m) s))
  refine wo (h:=aM ((by have v:=vS t x k y g.nodes[i].toNat aD;rw [p] at v;exact v)) wl ?_)
  refine f9 (λu=>?_) λu=>?_
  .have Y:=wa Y u
   exact wo (h:=wx l (i+1) ⟨(f++(if DC t g.nodes k i=true then [(i:Int)] else [])),wg,wn,wn,wj,(by rw [aJ];split<;>simp<;>omega),(by rw [cV,<- o])⟩)
  .have Y:=wa Y u
   exact wo (h:=wx l (i+1) ⟨(f++(if DC t g.nodes k i=true then [(i:Int)] else [])),wg,wn,wn,wj,(by rw [aJ];split<;>simp<;>omega),(by rw [cV,<- o])⟩)
 .have hY:uA t g.nodes k=f:=by rw [o,(aD:i=g.nodes.length)];rfl
  refine wv (h:=?_)
  exact z _ _ _ (by simp [go_sem,Y,hY]) (by simp [go_sem,Y,hY])
def Attr.good (x:Attr):Prop:=x.low<=x.high/\-1000<=x.low/\x.high<=1000
theorem wG (b:ByteArray)(i j:Nat):(b.extract i j).size<=b.size:=by rw [ByteArray.size_extract];omega
theorem tA (i:Nat)(x:B2):(l5 i x).attrs.length<=1/\∀ a∈(l5 i x).attrs,a.good/\a.ok:=by
 have f:=jW x.2
 have g:=b7 (aD:0<=(x.2.toNat:Int) / 4) (aD:(0:Int)<9)
 have c:=wG tyU i (i+1)
 have e:tyU.size=6:=rfl
 unfold l5
 by_cases d:(x.2.toNat:Int).tmod 4=1
 .simp only [d,if_true]
  refine ⟨by simp,λa b=>?_⟩
  simp only [aW] at b
  subst b
  exact ⟨⟨by simp only;omega,by simp only;omega,by simp only;omega⟩,⟨by simp only;omega,by simp,by simp⟩⟩
 .by_cases h2:(x.2.toNat:Int).tmod 4=2
  .rw [if_neg d,if_pos h2]
   refine ⟨by simp,λa b=>?_⟩
   simp only [aW] at b
   subst b
   refine ⟨⟨by simp,by simp,by simp⟩,⟨by simp only;omega,λs c=>?_,by simp⟩⟩
   simp only [bP,i7,or_false] at c
   rcases c with rfl|rfl
   .show (3:Nat)<=100000;omega
   .show (2:Nat)<=100000;omega
  .rw [if_neg d,if_neg h2];simp
theorem vZ {ns es:List B2}{j:Nat}{n:NodeTy}(h:(jE ns es).nodes[j]?=some n):j<lG ns/\n=l5 j (i5 ns j):=by
 simp only [jE,rR,aH] at h
 by_cases a:j<lG ns
 .rw [dZ a] at h;simp at h;exact ⟨a,h.symm⟩
 .rw [bE (bS a)] at h;cases h
theorem zT (ns es:List B2):(jE ns es).nodes.length=lG ns/\0<lG ns/\lG ns<=6/\(jE ns es).edges.length<=5:=by
 refine ⟨O0 _ _,by unfold lG;omega,by unfold lG;omega,by simp only [jE,A3];omega⟩
theorem A2 {ns es:List B2}{x:EdgeTy}(h:x∈(jE ns es).edges):(0<=x.from_/\x.from_<lG ns)/\(0<=x.to_/\x.to_<lG ns)/\x.ok:=by
 simp only [jE,rS,aQ] at h
 obtain ⟨i,_,rfl⟩:=h
 have e:0<lG ns:=by unfold lG;omega
 have c:=b7 (show 0<=((i5 es i).1.toNat:Int) by omega) (aD:(0:Int)<lG ns)
 have b:=b7 (show 0<=((i5 es i).2.toNat:Int) by omega) (aD:(0:Int)<lG ns)
 have d:=wG tyE i (i+1)
 have a:tyE.size=5:=rfl
 exact ⟨c,b,⟨by simp only [BZ];omega⟩⟩
theorem Hj (nodes:List NodeTy)(h:∀ n∈nodes,n.attrs.length<=1):∀ f a,(gG nodes f a).length<=f
 | 0,a=>by simp [gG]
 | f+1,a=>by
  unfold gG
  split
  .simp
  .rename_i n hn
   have:=h n (aI hn)
   have h2:=Hj nodes h f n.parent.toNat
   simp only [aJ]
   split<;>simp<;>omega
theorem Hl {p:Attr->Prop}(nodes:List NodeTy)(h:∀ n∈nodes,∀ a∈n.attrs,p a):∀ f a,∀ x∈gG nodes f a,p x
 | 0,a,x,hx=>by simp [gG] at hx
 | f+1,a,x,hx=>by
  unfold gG at hx
  split at hx
  .cases hx
  .rename_i n hn
   rcases aV.1 hx with hx|hx
   .split at hx
    .exact Hl nodes h f _ x hx
    .cases hx
   .exact h n (aI hn) x hx
theorem Df {ns es:List B2}{n:NodeTy}(h:n∈(jE ns es).nodes):∃ j,n=l5 j (i5 ns j):=by
 obtain ⟨j,a⟩:=List.getElem?_of_mem h
 exact ⟨j,(vZ a).2⟩
theorem D6 (ns es:List B2):(jE ns es).valid:=by
 obtain ⟨b,f,e,d⟩:=zT ns es
 refine ⟨aD,aD,aD,λj n a=>?_,λj n a=>?_,λj g=>?_,λx c=>?_⟩
 .obtain ⟨_,rfl⟩:=vZ a
  have:=b7 (show 0<=((i5 ns j).1.toNat:Int) by omega) (aD:0<(j:Int)+1)
  simp only [l5];omega
 .obtain ⟨_,rfl⟩:=vZ a
  have:=b7 (show 0<=((i5 ns j).1.toNat:Int) by omega) (aD:0<(j:Int)+1)
  simp only [l5];omega
 .have:=Hj (jE ns es).nodes (λn a=>by obtain ⟨j,rfl⟩:=Df a;exact (tA j _).1) (j+1) j
  unfold Types.attrs;omega
 .obtain ⟨i,h,_⟩:=A2 c
  simp only [insideF,b]
  simp;omega
theorem S8 (ns es:List B2):(jE ns es).ok:=by
 obtain ⟨h,g,f,e⟩:=zT ns es
 refine ⟨λn c=>?_,λx a=>(A2 a).2.2,aD,aD⟩
 obtain ⟨j,rfl⟩:=Df c
 have d:=tA j (i5 ns j)
 have i:=wG tyA j (j+1)
 have b:tyA.size=6:=rfl
 exact ⟨by simp only [l5];omega,λx a=>(d.2 x a).2,aD⟩
theorem OZ (ns es:List B2)(a:Int):(∀ x∈bM (jE ns es) a,x.good)/\(bM (jE ns es) a).length<=8:=by
 unfold bM
 split
 .rename_i h
  have d:=(rY h)
  refine ⟨λx c=>Hl (p:=Attr.good) (jE ns es).nodes (λn e y b=>by obtain ⟨j,rfl⟩:=Df e;exact ((tA j _).2 y b).1) _ _ x c,d.1.attrs _ aD⟩
 .simp
structure Types.fine (t:Types):Prop where
 ok:t.ok
 valid:t.valid
 good:∀ a,(∀ x∈bM t a,x.good)/\(bM t a).length<=8
theorem Gu (ns es:List B2):(jE ns es).fine:=⟨S8 ns es,D6 ns es,OZ ns es⟩
abbrev B3:=UInt8 × UInt8 × UInt8
def cT3 (x:B3):List D:=[.int .u8 (x.1.toNat:Int),.int .u8 (x.2.1.toNat:Int),.int .u8 (x.2.2.toNat:Int)]
@[go_sem] theorem Cx (l:List B3):D.clLL (l.map cT3)=true:=c8 _ (λ_=>rfl) l
structure Dr5 where
 nodes:List UInt8
 edges:List B3
def Dr5.c (d:Dr5):List D:=[.list (d.nodes.map cU),.list (d.edges.map cT3)]
@[go_sem] theorem Dr5.cl (d:Dr5):D.clL d.c=true:=by simp [Dr5.c,D.clL,D.cl,PF,Cx]
def B1 (n:Nat)(ds:List UInt8)(k:Nat):List Int:=(List.range k).map λi=>((ds[i]?.getD 0).toNat:Int).tmod n
def QP (t:Types)(k:Int):EdgeTy:=t.edges[k.toNat]?.getD ⟨⟨#[]⟩,0,0,0,0,0,0⟩
def sZ (l:List Int)(b:UInt8):Int:=l[((b.toNat:Int).tmod l.length).toNat]?.getD 0
def EI (t:Types)(ns:List Int)(x:B3):List Edge :=
 if 0<(uA t ns (QP t ((x.1.toNat:Int).tmod t.edges.length)).from_).length/\0<(uA t ns (QP t ((x.1.toNat:Int).tmod t.edges.length)).to_).length then
  [⟨(x.1.toNat:Int).tmod t.edges.length,sZ (uA t ns (QP t ((x.1.toNat:Int).tmod t.edges.length)).from_) x.2.1,sZ (uA t ns (QP t ((x.1.toNat:Int).tmod t.edges.length)).to_) x.2.2⟩] else []
def H4 (t:Types)(ns:List Int)(es:List B3)(k:Nat):List Edge:=(List.range k).flatMap λi=>EI t ns (es[i]?.getD (0,0,0))
def fX (t:Types)(d:Dr5):Graph:=⟨B1 t.nodes.length d.nodes (min d.nodes.length 8),if t.edges.length=0 then [] else H4 t (B1 t.nodes.length d.nodes (min d.nodes.length 8)) d.edges (min d.edges.length 10)⟩
theorem RE (n:Nat)(ds:List UInt8)(k:Nat):B1 n ds (k+1)=B1 n ds k++[((ds[k]?.getD 0).toNat:Int).tmod n]:=by simp [B1,bK]
theorem Gy (n:Nat)(ds:List UInt8)(k:Nat):(B1 n ds k).length=k:=by simp [B1]
theorem MQ {n:Nat}(hn:0<n){ds:List UInt8}{k:Nat}{x:Int}(h:x∈B1 n ds k):0<=x/\x<n:=by
 simp only [B1,aQ] at h
 obtain ⟨i,_,rfl⟩:=h
 exact b7 aD aD
theorem Di (t:Types)(ns:List Int)(es:List B3)(k:Nat):H4 t ns es (k+1)=H4 t ns es k++EI t ns (es[k]?.getD (0,0,0)):=by simp [H4,bK]
theorem Gx (t:Types)(ns:List Int)(x:B3):(EI t ns x).length<=1:=by unfold EI;split<;>simp
theorem MR (t:Types)(ns:List Int)(es:List B3):∀ k,(H4 t ns es k).length<=k
 | 0=>by simp [H4]
 | k+1=>by rw [Di,aJ];have:=MR t ns es k;have:=Gx t ns (es[k]?.getD (0,0,0));omega
theorem Hp {t:Types}{ns:List Int}{k x:Int}(h:x∈uA t ns k):0<=x/\x<ns.length:=by
 simp only [uA,aQ,dL,aR] at h
 obtain ⟨i,⟨hi,_⟩,rfl⟩:=h;omega
theorem yI {l:List Int}(h:0<l.length)(b:UInt8):∃ hk:((b.toNat:Int).tmod l.length).toNat<l.length,sZ l b=l[((b.toNat:Int).tmod l.length).toNat]:=by
 have:=b7 (aD:0<=(b.toNat:Int)) (aD:(0:Int)<l.length)
 have hk:((b.toNat:Int).tmod l.length).toNat<l.length:=aD
 exact ⟨hk,by unfold sZ;rw [aA hk];rfl⟩
theorem uQ {l:List Int}(h:0<l.length)(b:UInt8):sZ l b∈l:=by
 obtain ⟨a,e⟩:=yI h b
 rw [e];exact aC a
theorem RF (t:Types)(ns:List Int)(es:List B3)(k:Nat):Graph.ends ⟨ns,H4 t ns es k⟩:=by
 intro x a
 simp only [H4,bH] at a
 obtain ⟨i,_,a⟩:=a
 unfold EI at a
 split at a
 .rename_i h
  simp only [aW] at a
  subst a
  exact ⟨Hp (uQ h.1 _),Hp (uQ h.2 _)⟩
 .cases a
theorem yO (t:Types)(d:Dr5):(fX t d).ends:=by
 unfold fX
 split
 .intro x a;cases a
 .exact RF _ _ _ _
theorem v7 (t:Types)(d:Dr5):(fX t d).nodes.length<=8/\(fX t d).edges.length<=10:=by
 unfold fX
 refine ⟨by simp only [Gy];omega,?_⟩
 split
 .simp
 .exact c9 (MR _ _ _ _) aD
theorem OJ (t:Types)(ht:t.fine)(d:Dr5):Pure Tryz.prog 260 [t.d,.agg d.c,.bool true] (fX t d).d:=by
 have g1:=ht.ok.fewN
 have g2:=ht.ok.fewE
 have a2:=ht.valid.ne
 have d3:t.nodes≠[]:=by intro h;rw [h] at a2;simp at a2
 refine Tz.pK ⟨λt=>t==6||t==7||t==9,λr=>match r with|11=>[(0,14),(1,14)]|18=>[(0,30),(1,30)]|_=>[]⟩ Tryz.func260 rfl (λQ hQ=>?_)
 try simp [go_sem,seval,Dr5.c]
 obtain ⟨I0,a3⟩:∃ I0:Nat->dA->AHeap->Prop,∀ (i:Nat) (e:dA) (H:AHeap),I0 i e H↔((e 3=.adr t.c)/\(e 4=.adr d.c)/\(e 2=.bool true)/\(e 6=.ptr 0 1 0 0)/\(e 7=.own 1 i)/\(e 8=dI i)/\(H.get 0=some ⟨29,2,[[.nil,.nil]],false⟩)/\(0<H.next)/\(H.get 1=some ⟨3,1,(e9 i).map cI,false⟩)/\(1<H.next)/\(i<=t.nodes.length)/\((e9 i).length=i)):=⟨λi e H=>_,λ_ _ _=>Iff.rfl⟩
 refine oR I0 (λi=>t.nodes.length - i) (0) ((a3 _ _ _).2 ⟨?_,?_,?_,?_,?_,?_,?_,?_,(by rfl),?_,(by first|assumption|omega|(simp [go_sem,Dr5.c];done)|(simp_all;done)),(by exact gM _)⟩) ?_
 iterate 9 (first|omega|(simp [go_sem,seval,Dr5.c]<;>omega))
 intro i e H f1
 obtain ⟨b9,b4,c2,b1,a8,a6,e6,d2,e3,c9,hi,o⟩:=(a3 _ _ _).1 f1
 have x0:=b8 d2
 have x1:=b8 c9
 have P:=And.intro b9 (And.intro b4 (And.intro c2 (And.intro b1 (And.intro a8 (And.intro a6 (And.intro e6 (And.intro e3 (And.intro x0 x1))))))))
 try simp [go_sem,seval,Dr5.c,P,o]
 repeat first|intro _|refine ⟨eK,?_⟩
 refine aP (λC=>?_) (λC=>?_)
 .try simp [go_sem] at C
  try simp [go_sem,seval,Dr5.c,P,o,C,aA C]
  repeat first|intro _|refine ⟨eK,?_⟩
  refine dN (i+1) aD ((a3 _ _ _).2 ⟨?_,?_,?_,?_,?_,?_,?_,?_,(by simp [go_sem,Dr5.c,P,o,C,aA C,C9]),?_,(by first|assumption|omega|(simp [go_sem,Dr5.c,P,o,C,aA C];done)|(simp_all<;>omega)),(by exact gM _)⟩)<;>first|omega|(simp [go_sem,seval,Dr5.c,P,o,C,aA C]<;>omega)
 .try simp [go_sem] at C
  have hI:i=t.nodes.length:=aD
  subst hI
  have f:=Lf H.next
  try simp [go_sem,seval,Dr5.c,P,o,f]
  obtain ⟨I2,N⟩:∃ I2:Nat->dA->AHeap->Prop,∀ (i:Nat) (e:dA) (H:AHeap),I2 i e H↔(∃ c:Nat,∃ a:Nat,(e 3=.adr t.c)/\(e 4=.adr d.c)/\(e 2=.bool true)/\(e 6=.ptr 0 1 0 0)/\(e 7=.own 1 t.nodes.length)/\(e 9=.ptr c 1 0 0)/\(e 10=dI i)/\(H.get 0=some ⟨29,2,[[.nil,.nil]],false⟩)/\(0<H.next)/\(H.get 1=some ⟨3,1,(e9 t.nodes.length).map cI,false⟩)/\(1<H.next)/\(H.get c=some ⟨29,2,[[.own a i,.nil]],false⟩)/\(c<H.next)/\(H.get a=some ⟨3,1,(B1 t.nodes.length d.nodes i).map cI,false⟩)/\(a<H.next)/\(i<=8)/\(i<=d.nodes.length)/\(1<c/\c<a)/\((B1 t.nodes.length d.nodes i).length=i)):=⟨λi e H=>_,λ_ _ _=>Iff.rfl⟩
  refine A5 (Ghosts.step (Ghosts.refl _) H.next 0 0 3 1 _ _ ((by simp [go_sem,Dr5.c,P,o,f]:AHeap.get _ _=some ⟨29,2,[[.nil,.nil]],false⟩)) rfl rfl rfl) I2 (λi=>8 - i) (0) ((N _ _ _).2 ⟨(H.next),(H.next+1),?_,?_,?_,?_,?_,?_,?_,?_,?_,?_,?_,?_,?_,(by simp [go_sem,Dr5.c,P,o,f,B1]),?_,(by first|assumption|omega|(simp [go_sem,Dr5.c,P,o,f];done)|(simp_all;done)),(by first|assumption|omega|(simp [go_sem,Dr5.c,P,o,f];done)|(simp_all;done)),aD,(by exact Gy _ _ _)⟩) ?_
  iterate 14 (first|omega|(simp [go_sem,seval,Dr5.c,P,o,f]<;>omega))
  intro i e H f0
  obtain ⟨c,a,b6,b3,c1,b0,a7,a5,Z,e5,d1,e2,c8,d8,c4,e1,c7,hi,g0,hc,j⟩:=(N _ _ _).1 f0
  have x0:=b8 d1
  have x1:=b8 c8
  have xc:=b8 c4
  have xa:=b8 c7
  have O:=And.intro b6 (And.intro b3 (And.intro c1 (And.intro b0 (And.intro a7 (And.intro a5 (And.intro Z (And.intro e5 (And.intro e2 (And.intro d8 (And.intro e1 (And.intro x0 (And.intro x1 (And.intro xc xa)))))))))))))
  have l:=And.intro (dG (aD:a≠c)) (And.intro (dG (aD:a≠1)) (And.intro (dG (aD:a≠0)) (And.intro (dG (aD:c≠1)) (And.intro (dG (aD:c≠0)) (dG (aD:1≠0))))))
  try simp [go_sem,seval,Dr5.c,o,f,O,j,l]
  repeat first|intro _|refine ⟨eK,?_⟩
  refine aP (λL=>?_) (λL=>?_)
  .try simp [go_sem] at L
   have e7:=jW d.nodes[i]
   have f2:d.nodes[i]?.getD 0=d.nodes[i]:=by rw [aA aD];rfl
   have a0:=b7 (aD:0<=(d.nodes[i].toNat:Int)) (aD:(0:Int)<t.nodes.length)
   have K:=yK (n:=t.nodes.length) (a:=((d.nodes[i].toNat:Int).tmod t.nodes.length).toNat) aD
   rw [Int.toNat_of_nonneg a0.1] at K
   have g:(t.nodes.length:Int)≠0:=aD
   have M:=gM t.nodes.length
   try simp [go_sem,seval,Dr5.c,o,f,O,j,l,L,aA (aD:i<d.nodes.length),K,g,cU,M]
   repeat first|intro _|refine ⟨eK,?_⟩
   refine dN (i+1) aD ((N _ _ _).2 ⟨(c),(a),?_,?_,?_,?_,?_,?_,?_,?_,?_,?_,?_,?_,?_,(by simp [go_sem,Dr5.c,o,f,O,j,l,L,aA (aD:i<d.nodes.length),K,g,cU,M,RE,f2]),?_,(by first|assumption|omega|(simp [go_sem,Dr5.c,o,f,O,j,l,L,aA (aD:i<d.nodes.length),K,g,cU,M,C];done)|(simp_all<;>omega)),(by first|assumption|omega|(simp [go_sem,Dr5.c,o,f,O,j,l,L,aA (aD:i<d.nodes.length),K,g,cU,M,C];done)|(simp_all<;>omega)),aD,(by exact Gy _ _ _)⟩)<;>first|omega|(simp [go_sem,seval,Dr5.c,o,f,O,j,l,L,aA (aD:i<d.nodes.length),K,g,cU,M]<;>omega)
  .try simp [go_sem] at L
   have g3:¬ (i<d.nodes.length/\i<8):=λh=>d3 (L h.1 aD)
   have N:i=min d.nodes.length 8:=aD
   have a1:∀ x∈B1 t.nodes.length d.nodes i,0<=x/\x<t.nodes.length:=λx F=>MQ a2 F
   obtain ⟨J,m⟩:=eX (B1 t.nodes.length d.nodes i)
   rw [m] at j a1
   try simp [go_sem,seval,Dr5.c,o,f,O,j,l,m]
   obtain ⟨I4,W⟩:∃ I4:Nat->dA->AHeap->Prop,∀ (k:Nat) (e:dA) (H:AHeap),I4 k e H↔(∃ b:Nat,∃ R:List Edge,(e 3=.adr t.c)/\(e 4=.adr d.c)/\(e 2=.bool true)/\(e 6=.ptr 0 1 0 0)/\(e 9=.ptr c 1 0 0)/\(e 11=dI k)/\(H.get 0=some ⟨29,2,[[.nil,.nil]],false⟩)/\(0<H.next)/\(H.get c=some ⟨29,2,[[.own a i,.own b R.length]],false⟩)/\(c<H.next)/\(H.get a=some ⟨3,1,J.map cI,false⟩)/\(a<H.next)/\(H.get b=some ⟨122,3,R.map Edge.c,false⟩)/\(b<H.next)/\(k<=10)/\(k<=d.edges.length)/\(0<c/\c<a/\a<b)/\(R=H4 t J d.edges k)/\(t.edges.length=0->k=0)/\(R.length<=k)):=⟨λk e H=>_,λ_ _ _=>Iff.rfl⟩
   refine A5 (Ghosts.step (Ghosts.refl _) c 0 1 122 3 _ _ ((by simp [Dr5.c,o,f,O,j,l,m]:AHeap.get _ _=some ⟨29,2,[[.own a i,.nil]],false⟩)) rfl rfl rfl) I4 (λk=>10 - k) (0) ((W _ _ _).2 ⟨(H.next),([]),?_,?_,?_,?_,?_,?_,?_,?_,?_,?_,?_,?_,?_,?_,(by first|assumption|omega|(simp [go_sem,Dr5.c,o,f,O,j,l,m];done)|(simp_all;done)),(by first|assumption|omega|(simp [go_sem,Dr5.c,o,f,O,j,l,m];done)|(simp_all;done)),aD,(by rfl),(by intro _;rfl),aF⟩) ?_
   iterate 14 (first|omega|(simp [go_sem,seval,Dr5.c,o,f,O,j,l,m]<;>omega))
   intro k e H e8
   obtain ⟨b,R,b5,b2,c0,a9,a4,Y,e4,d0,d7,c3,e0,c6,d9,c5,hk,f9,hb,hy,hz,f6⟩:=(W _ _ _).1 e8
   have x0:=b8 d0
   have xc:=b8 c3
   have xa:=b8 c6
   have xb:=b8 c5
   have E:=And.intro b5 (And.intro b2 (And.intro c0 (And.intro a9 (And.intro a4 (And.intro Y (And.intro e4 (And.intro d7 (And.intro e0 (And.intro d9 (And.intro x0 (And.intro xc (And.intro xa xb))))))))))))
   have s:=And.intro (dG (aD:b≠a)) (And.intro (dG (aD:b≠c)) (And.intro (dG (aD:b≠0)) (And.intro (dG (aD:a≠c)) (And.intro (dG (aD:a≠0)) (dG (aD:c≠0))))))
   try simp [go_sem,seval,Dr5.c,o,f,j,l,m,E,s]
   repeat first|intro _|refine ⟨eK,?_⟩
   refine aP (λp=>?_) (λp=>?_)
   .try simp [go_sem] at p
    have v:k<d.edges.length:=aD
    have d5:0<t.edges.length:=aD
    have f3:t.edges≠[]:=by intro h;rw [h] at d5;simp at d5
    obtain ⟨x,F⟩:=eX (d.edges[k])
    have w:d.edges[k]?.getD (0,0,0)=x:=by rw [aA v,<- F];rfl
    have e7:=jW x.1
    have f8:=jW x.2.1
    have f7:=jW x.2.2
    have a0:=b7 (aD:0<=(x.1.toNat:Int)) (aD:(0:Int)<t.edges.length)
    obtain ⟨q,A⟩:∃ q:Nat,(x.1.toNat:Int).tmod t.edges.length=(q:Int):=⟨_,(Int.toNat_of_nonneg a0.1).symm⟩
    have u:q<t.edges.length:=aD
    have d4:QP t ((x.1.toNat:Int).tmod t.edges.length)=t.edges[q]:=by unfold QP;rw [A,Int.toNat_natCast,aA u];rfl
    have G:=ht.valid.ends _ (aC u)
    simp only [insideF,aN,decide_eq_true_eq] at G
    have g:(t.edges.length:Int)≠0:=aD
    try simp [go_sem,seval,Dr5.c,o,f,j,l,m,E,s,p,aA v,F,w,cT3,A,aA u,g,Types.c]
    repeat first|intro _|refine ⟨eK,?_⟩
    refine j6 (DU t ht.valid ⟨J,R⟩ (by simp only;omega) a1 t.edges[q].from_ G.1.1) (by simp [go_sem,Dr5.c,o,f,j,l,m,E,s,p,aA v,F,w,cT3,A,aA u,g,Types.c,Graph.d,Graph.c,dLI]) (by simp [go_sem]) (Eg _) rfl (by simp [go_sem]) ?_
    try simp [go_sem,seval,Dr5.c,o,f,j,l,m,E,s,p,aA v,F,w,cT3,A,aA u,g,Types.c]
    repeat first|intro _|refine ⟨eK,?_⟩
    refine j6 (DU t ht.valid ⟨J,R⟩ (by simp only;omega) a1 t.edges[q].to_ G.2.1) (by simp [go_sem,Dr5.c,o,f,j,l,m,E,s,p,aA v,F,w,cT3,A,aA u,g,Types.c,Graph.d,Graph.c,dLI]) (by simp [go_sem]) (Eg _) rfl (by simp [go_sem]) ?_
    obtain ⟨la,z⟩:=eX (uA t J t.edges[q].from_)
    obtain ⟨lb,y⟩:=eX (uA t J t.edges[q].to_)
    try simp [go_sem,seval,Dr5.c,o,f,j,l,m,E,s,p,aA v,F,w,cT3,A,aA u,g,Types.c,z,y]
    repeat first|intro _|refine ⟨eK,?_⟩
    refine aP (λD=>?_) (λD=>?_)
    .try simp [go_sem] at D
     have I:0<la.length/\0<lb.length:=aD
     obtain ⟨ka,V⟩:=yI I.1 x.2.1
     obtain ⟨kb,U⟩:=yI I.2 x.2.2
     have ta:=b7 (aD:0<=(x.2.1.toNat:Int)) (aD:(0:Int)<la.length)
     have tb:=b7 (aD:0<=(x.2.2.toNat:Int)) (aD:(0:Int)<lb.length)
     have B:EI t J x=[⟨(q:Int),sZ la x.2.1,sZ lb x.2.2⟩]:=by unfold EI;rw [d4,z,y,if_pos I,A]
     have f5:¬la=[]:=by intro h;rw [h] at I;simp at I
     have f4:¬lb=[]:=by intro h;rw [h] at I;simp at I
     have T:(la.length:Int)≠0:=aD
     have S:(lb.length:Int)≠0:=aD
     try simp [go_sem,seval,Dr5.c,o,f,j,l,m,E,s,p,aA v,F,w,cT3,A,aA u,g,Types.c,z,y,aA ka,aA kb,B,V,U,T,S]
     repeat first|intro _|refine ⟨eK,?_⟩
     refine dN (k+1) aD ((W _ _ _).2 ⟨(b),(R++EI t J (d.edges[k]?.getD (0,0,0))),?_,?_,?_,?_,?_,?_,?_,?_,?_,?_,?_,?_,?_,?_,(by first|assumption|omega|(simp [go_sem,Dr5.c,o,f,j,l,m,E,s,p,aA v,F,w,cT3,A,aA u,g,Types.c,z,y,aA ka,aA kb,B,V,U,T,S,C,L,D];done)|(simp_all<;>omega)),(by first|assumption|omega|(simp [go_sem,Dr5.c,o,f,j,l,m,E,s,p,aA v,F,w,cT3,A,aA u,g,Types.c,z,y,aA ka,aA kb,B,V,U,T,S,C,L,D];done)|(simp_all<;>omega)),aD,(by rw [Di,<- hy]),aD,(by rw [aJ];have:=Gx t J (d.edges[k]?.getD (0,0,0));omega)⟩)<;>first|omega|(simp [go_sem,seval,Dr5.c,o,f,j,l,m,E,s,p,aA v,F,w,cT3,A,aA u,g,Types.c,z,y,aA ka,aA kb,B,V,U,T,S]<;>omega)
    .try simp [go_sem] at D
     have B:EI t J x=[]:=by unfold EI;rw [d4,z,y,if_neg (λh=>by have h2:=D h.1;rw [h2] at h;simp at h)]
     try simp [go_sem,seval,Dr5.c,o,f,j,l,m,E,s,p,aA v,F,w,cT3,A,aA u,g,Types.c,z,y,B]
     repeat first|intro _|refine ⟨eK,?_⟩
     refine dN (k+1) aD ((W _ _ _).2 ⟨(b),(R++EI t J (d.edges[k]?.getD (0,0,0))),?_,?_,?_,?_,?_,?_,?_,?_,?_,?_,?_,?_,?_,?_,(by first|assumption|omega|(simp [go_sem,Dr5.c,o,f,j,l,m,E,s,p,aA v,F,w,cT3,A,aA u,g,Types.c,z,y,B,C,L,D];done)|(simp_all<;>omega)),(by first|assumption|omega|(simp [go_sem,Dr5.c,o,f,j,l,m,E,s,p,aA v,F,w,cT3,A,aA u,g,Types.c,z,y,B,C,L,D];done)|(simp_all<;>omega)),aD,(by rw [Di,<- hy]),aD,(by rw [aJ];have:=Gx t J (d.edges[k]?.getD (0,0,0));omega)⟩)<;>first|omega|(simp [go_sem,seval,Dr5.c,o,f,j,l,m,E,s,p,aA v,F,w,cT3,A,aA u,g,Types.c,z,y,B]<;>omega)
   .try simp [go_sem] at p
    have d6:k<d.edges.length->k<10->t.edges.length=0:=λa b=>by rw [p a aD];rfl
    have X:fX t d=⟨J,R⟩:=by
     unfold fX
     rw [<- N,m]
     split
     .rename_i h0;have:=hz h0;subst this;rw [hy];rfl
     .rename_i hn0;rw [hy,show k=min d.edges.length 10 by
       have A:¬ (k<d.edges.length/\k<10):=λA=>hn0 (d6 A.1 A.2)
       omega]
    try simp [go_sem,seval,Dr5.c,o,f,j,l,m,E,s]
    exact hQ _ _ (by first|(left;(simp [go_sem,Dr5.c,o,f,j,l,m,E,s,X]);done)|(right;(simp [go_sem,Dr5.c,o,f,j,l,m,E,s,X]);done))
structure Dr21 where
 graph:Dr5
 slots:List B3
 tests:List T4
def Dr21.c (d:Dr21):List D:=[.list (d.graph.nodes.map cU),.list (d.graph.edges.map cT3),.list (d.slots.map cT3),.list (d.tests.map cT4)]
@[go_sem] theorem Dr21.cl (d:Dr21):D.clL d.c=true:=by simp [Dr21.c,D.clL,D.cl,PF,Cx,QC]
def c2 (x:Nat × Nat):List D:=[dI x.1,dI x.2]
def atN (t:Types)(ns:List Int)(i:Nat):List Attr:=bM t (ns[i]?.getD 0)
def Hq (t:Types)(ns:List Int)(i k:Nat):List (Nat × Nat):=(List.range k).map λj=>(i,j)
def Az (t:Types)(ns:List Int)(k:Nat):List (Nat × Nat):=(List.range k).flatMap λi=>Hq t ns i (atN t ns i).length
theorem JH (t:Types)(ns:List Int):Az t ns 0=[]:=rfl
theorem Aj (t:Types)(ns:List Int)(k:Nat):Az t ns (k+1)=Az t ns k++Hq t ns k (atN t ns k).length:=by simp [Az,bK]
theorem R9 (t:Types)(ns:List Int)(i k:Nat):Hq t ns i (k+1)=Hq t ns i k++[(i,k)]:=by simp [Hq,bK]
theorem CA (t:Types)(ns:List Int)(i k:Nat):(Hq t ns i k).length=k:=by simp [Hq]
theorem Hr (t:Types)(ht:t.fine)(ns:List Int):∀ k,(Az t ns k).length<=8 * k
 | 0=>by simp [Az]
 | k+1=>by rw [Aj,aJ,CA];have:=Hr t ht ns k;have:=(ht.good (ns[k]?.getD 0)).2;unfold atN;omega
def oQ (all:List (Nat × Nat))(b:UInt8):Nat × Nat:=all[((b.toNat:Int).tmod all.length).toNat]?.getD (0,0)
def RD (all:List (Nat × Nat))(st:List Slot × Int)(x:B3):List Slot × Int :=
 if st.2<=(x.2.1.toNat:Int).tmod 5 - 1 then
  if 3<st.2+1 then (st.1++[⟨(oQ all x.1).1,(oQ all x.1).2,⟨0,0⟩⟩],3) else (st.1++[⟨(oQ all x.1).1,(oQ all x.1).2,⟨st.2,0⟩⟩],st.2+1)
 else (st.1++[⟨(oQ all x.1).1,(oQ all x.1).2,⟨(x.2.1.toNat:Int).tmod 5 - 1,(x.2.2.toNat:Int).tmod 5 - 2⟩⟩],st.2)
def uZ (all:List (Nat × Nat))(ds:List B3)(k:Nat):List Slot × Int:=(List.range k).foldl (λst i=>RD all st (ds[i]?.getD (0,0,0))) ([],0)
theorem Dh (all:List (Nat × Nat))(ds:List B3)(k:Nat):uZ all ds (k+1)=RD all (uZ all ds k) (ds[k]?.getD (0,0,0)):=by simp [uZ,bK]
theorem zU (all:List (Nat × Nat))(ds:List B3):∀ k,(uZ all ds k).1.length=k/\0<=(uZ all ds k).2/\(uZ all ds k).2<=3
 | 0=>by simp [uZ]
 | k+1=>by
  obtain ⟨h1,h2,h3⟩:=zU all ds k
  rw [Dh]
  unfold RD
  split
  .split
   .simp only [aJ,pP];omega
   .simp only [aJ,pP];omega
  .simp only [aJ,pP];omega
def Gw (v:Int)(ts:List T4)(k:Nat):List Test:=(List.range k).map λi=>made3 v (ts[i]?.getD (0,0,0,0))
theorem RC (v:Int)(ts:List T4)(k:Nat):Gw v ts (k+1)=Gw v ts k++[made3 v (ts[k]?.getD (0,0,0,0))]:=by simp [Gw,bK]
theorem B0 (v:Int)(ts:List T4)(k:Nat):(Gw v ts k).length=k:=by simp [Gw]
def JI (t:Types)(d:Dr21):List (Nat × Nat):=Az t (fX t d.graph).nodes (fX t d.graph).nodes.length
def jX (t:Types)(d:Dr21):List Slot × Int:=if (JI t d).length=0 then ([],0) else uZ (JI t d) d.slots (min d.slots.length 4)
def eF (t:Types)(d:Dr21):Pattern:=⟨fX t d.graph,(jX t d).1,(jX t d).2,Gw (jX t d).2 d.tests (min d.tests.length 3)⟩
theorem OI (t:Types)(W:t.fine)(d:Dr21):Pure Tryz.prog 165 [t.d,.agg d.c] (eF t d).d:=by
 obtain ⟨G,hG⟩:=eX (fX t d.graph)
 have d1:=v7 t d.graph
 rw [hG] at d1
 refine Tz.pK ⟨λt=>t==4||t==5||t==6||t==12||t==13||t==14,λr=>match r with|27=>[(0,10),(1,10)]|_=>[]⟩ Tryz.func165 rfl (λQ hQ=>?_)
 have Y:=wa @Dr21.c.eq_1 @JH
 refine wv (h:=aB ((by have hq:=OJ t W d.graph;rw [hG] at hq;exact hq)) wl ?_)
 refine wv (h:=bV (λi e H=>(e 2=.adr t.c/\e 3=.adr d.c/\e 5=.ptr 1 1 0 0/\e 4=.ptr 0 1 0 0/\e 6=.own 2 (Az t G.nodes i).length/\e 7=dI i)/\(H.get 0=some ⟨33,5,[[.nil,.nil,.nil,dI 0,.nil]],false⟩)/\(0<H.next)/\(H.get 1=some ⟨33,5,[[dLI G.nodes,.list (G.edges.map Edge.c),.nil,dI 0,.nil]],false⟩)/\(1<H.next)/\(H.get 2=some ⟨302,2,(Az t G.nodes i).map c2,false⟩)/\(2<H.next)/\(i<=G.nodes.length)) (λi=>G.nodes.length - i) 0 ⟨wg,wn,wn,wn,wn,(by simp [go_sem,Az]),wn,wi⟩ λI0 d0 i e H c4=>?_)
 obtain ⟨E0,b4,V,C,R,a8,M,hi⟩:=c4
 have Y:=wa Y (wa E0 (wa b4 (wa (b8 V) (wa C (wa (b8 R) (wa a8 (b8 M)))))))
 refine vJ (λh4=>?_) λh4=>?_
 .have hAl:=(W.good G.nodes[i]).2
  have a1:atN t G.nodes i=bM t G.nodes[i]:=by simp [atN,aA h4]
  have Z:=Hr t W G.nodes i
  have Y:=wa Y (wa h4 (aA h4))
  refine wp (h:=aM (sV t W.ok G.nodes[i]) wl ?_)
  refine wp (h:=bV (λk e H=>(e 2=.adr t.c/\e 3=.adr d.c/\e 5=.ptr 1 1 0 0/\e 4=.ptr 0 1 0 0/\e 6=.own 2 ((Az t G.nodes i).length+k)/\e 7=dI i/\e 8=.list ((bM t G.nodes[i]).map Attr.c)/\e 10=dI k)/\(H.get 0=some ⟨33,5,[[.nil,.nil,.nil,dI 0,.nil]],false⟩)/\(0<H.next)/\(H.get 1=some ⟨33,5,[[dLI G.nodes,.list (G.edges.map Edge.c),.nil,dI 0,.nil]],false⟩)/\(1<H.next)/\(H.get 2=some ⟨302,2,(Az t G.nodes i).map c2++(Hq t G.nodes i k).map c2,false⟩)/\(2<H.next)/\(k<=(bM t G.nodes[i]).length)/\((Hq t G.nodes i k).length=k)) (λk=>(bM t G.nodes[i]).length - k) 0 ⟨wg,wn,wn,wn,wn,(by simp [go_sem,Y,Hq]),wn,wi,(by exact CA _ _ _ _)⟩ λI2 c9 k e H c3=>?_)
  obtain ⟨E2,b3,U,b0,P,a7,L,hk,b9⟩:=c3
  have Y:=wa Y (wa E2 (wa b3 (wa (b8 U) (wa b0 (wa (b8 P) (wa a7 (wa (b8 L) b9)))))))
  refine vJ (λh8=>?_) λh8=>?_
  .have Y:=wa Y h8
   exact wp (h:=wx c9 (k+1) ⟨wg,wn,wn,wn,wn,(by simp [go_sem,Y,R9,c2]),wn,wj,(by exact CA _ _ _ _)⟩)
  .have hK:k=(bM t G.nodes[i]).length:=aD
   have d2:(Az t G.nodes (i+1)).length=(Az t G.nodes i).length+k:=by rw [Aj,aJ,CA,a1,hK]
   subst hK
   exact wp (h:=wx d0 (i+1) ⟨wg,wn,wn,wn,wn,(by simp [go_sem,Y,Aj,d2,a1]),wn,wj⟩)
 .have hI:i=G.nodes.length:=aD
  obtain ⟨a,u⟩:=eX (Az t G.nodes i)
  have Z:=Hr t W G.nodes i
  rw [u] at Z
  have Y:=wa Y u
  refine wv (h:=tX (Ghosts.step (Ghosts.refl _) 1 0 2 159 4 _ _ (C) rfl rfl rfl) (λn e H=>∃ j:Nat,∃ p:List Slot,∃ v:Int,(e 2=.adr t.c/\e 3=.adr d.c/\e 5=.ptr 1 1 0 0/\e 4=.ptr 0 1 0 0/\e 6=.own 2 a.length/\e 11=dI n)/\(H.get 0=some ⟨33,5,[[.nil,.nil,.nil,dI 0,.nil]],false⟩)/\(0<H.next)/\(H.get 1=some ⟨33,5,[[dLI G.nodes,.list (G.edges.map Edge.c),.own j p.length,dI v,.nil]],false⟩)/\(1<H.next)/\(H.get 2=some ⟨302,2,a.map c2,false⟩)/\(2<H.next)/\(H.get j=some ⟨159,4,p.map Slot.c,false⟩)/\(j<H.next)/\(n<=4)/\(n<=d.slots.length)/\((p,v)=uZ a d.slots n)/\(a.length=0->n=0)/\(2<j)) (λn=>4 - n) 0 ⟨H.next,([]),0,wg,wn,wn,wn,wn,wn,wn,wn,wn,wi,wi,(by rfl),(by intro _;rfl),aD⟩ λI4 D n e H c1=>?_)
  obtain ⟨j,p,v,E4,b2,T,B,O,a6,K,a5,J,hn,e2,w,hz,e5⟩:=c1
  have d7:=And.intro (dG (aD:j≠2)) (And.intro (dG (aD:j≠1)) (And.intro (dG (aD:j≠0)) (And.intro (dG (aD:2≠1)) (And.intro (dG (aD:2≠0)) (dG (aD:1≠0))))))
  have Y:=wa Y (wa E4 (wa b2 (wa (b8 T) (wa B (wa (b8 O) (wa a6 (wa (b8 K) (wa a5 (wa (b8 J) d7)))))))))
  refine vJ (λE=>?_) λE=>?_
  .have hnl:n<d.slots.length:=aD
   have a0:0<a.length:=aD
   have d8:¬a=[]:=by intro h;rw [h] at a0;simp at a0
   obtain ⟨x,hx⟩:=eX (d.slots[n])
   have c5:d.slots[n]?.getD (0,0,0)=x:=by rw [aA hnl,<- hx];rfl
   have e1:=jW x.1
   have e0:=jW x.2.1
   have d9:=jW x.2.2
   have s:=zU a d.slots n
   rw [<- w] at s
   simp only at s
   have tm:=b7 (aD:0<=(x.1.toNat:Int)) (aD:(0:Int)<a.length)
   have t2:=b7 (aD:0<=(x.2.1.toNat:Int)) (aD:(0:Int)<5)
   have t3:=b7 (aD:0<=(x.2.2.toNat:Int)) (aD:(0:Int)<5)
   have A:((x.1.toNat:Int).tmod a.length).toNat<a.length:=aD
   have c7:a[((x.1.toNat:Int).tmod a.length).toNat]=oQ a x.1:=by unfold oQ;rw [aA A];rfl
   have X:(a.length:Int)≠0:=aD
   have o:uZ a d.slots (n+1)=RD a (p,v) x:=by rw [Dh,c5,<- w]
   unfold RD at o
   have nx:=Lf H.next
   have Y:=wa Y (wa E (wa (aA hnl) (wa hx (wa @cT3.eq_1 (wa (aA A) (wa c7 (wa X (wa @c2.eq_1 nx))))))))
   refine vJ (λd5=>?_) λd5=>?_
   .rw [if_pos (by simp only;omega)] at o
    refine vJ (λd4=>?_) λd4=>?_
    .rw [if_pos (by simp only;omega)] at o
     obtain ⟨f,b⟩:∃ y:List Slot,y=p++[⟨(oQ a x.1).1,(oQ a x.1).2,⟨0,0⟩⟩]:=⟨_,rfl⟩
     obtain ⟨z,g⟩:∃ y:Int,y=3:=⟨_,rfl⟩
     have l:(f,z)=uZ a d.slots (n+1):=by rw [o,b,g]
     have Y:=wa Y (wa b g)
     exact wp (h:=wx D (n+1) ⟨j,f,z,wg,wn,wn,wn,wn,wn,wn,wn,wn,wj,wj,(by exact l),aD,aD⟩)
    .rw [if_neg (by simp only;omega)] at o
     obtain ⟨f,b⟩:∃ y:List Slot,y=p++[⟨(oQ a x.1).1,(oQ a x.1).2,⟨v,0⟩⟩]:=⟨_,rfl⟩
     obtain ⟨z,g⟩:∃ y:Int,y=v+1:=⟨_,rfl⟩
     have l:(f,z)=uZ a d.slots (n+1):=by rw [o,b,g]
     have Y:=wa Y (wa b g)
     exact wp (h:=wx D (n+1) ⟨j,f,z,wg,wn,wn,wn,wn,wn,wn,wn,wn,wj,wj,(by exact l),aD,aD⟩)
   .rw [if_neg (by simp only;omega)] at o
    have d3:¬ (3:Int)<v:=aD
    obtain ⟨f,b⟩:∃ y:List Slot,y=p++[⟨(oQ a x.1).1,(oQ a x.1).2,⟨(x.2.1.toNat:Int).tmod 5 - 1,(x.2.2.toNat:Int).tmod 5 - 2⟩⟩]:=⟨_,rfl⟩
    obtain ⟨z,g⟩:∃ y:Int,y=v:=⟨_,rfl⟩
    have l:(f,z)=uZ a d.slots (n+1):=by rw [o,b,g]
    have Y:=wa Y (wa b (wa g d3))
    exact wp (h:=wx D (n+1) ⟨j,f,z,wg,wn,wn,wn,wn,wn,wn,wn,wn,wj,wj,(by exact l),aD,aD⟩)
  .have s:=zU a d.slots n
   rw [<- w] at s
   simp only at s
   have b5:0<=v/\v<=1000:=aD
   have hS:jX t d=(p,v):=by
    unfold jX JI
    rw [hG,<- hI,u,w]
    split
    .rename_i h0;rw [hz h0];rfl
    .rename_i h0
     have hq:¬ (n<d.slots.length/\n<4):=λh=>h0 (by rw [E h.1 aD];rfl)
     rw [(aD:n=min d.slots.length 4)]
   refine wv (h:=tX (Ghosts.step (Ghosts.refl _) 1 0 4 254 5 _ _ (B) rfl rfl rfl) (λm e H=>∃ q:Nat,(e 2=.adr t.c/\e 3=.adr d.c/\e 5=.ptr 1 1 0 0/\e 4=.ptr 0 1 0 0/\e 15=dI m)/\(H.get 0=some ⟨33,5,[[.nil,.nil,.nil,dI 0,.nil]],false⟩)/\(0<H.next)/\(H.get 1=some ⟨33,5,[[dLI G.nodes,.list (G.edges.map Edge.c),.own j p.length,dI v,.own q m]],false⟩)/\(1<H.next)/\(H.get j=some ⟨159,4,p.map Slot.c,false⟩)/\(j<H.next)/\(H.get q=some ⟨254,5,(Gw v d.tests m).map Test.c,false⟩)/\(q<H.next)/\(m<=3)/\(m<=d.tests.length)/\(1<j/\j<q)/\((Gw v d.tests m).length=m)) (λm=>3 - m) 0 ⟨H.next,wg,wn,wn,wn,wn,wn,wn,(by simp [go_sem,Y,Gw]),wn,wi,wi,aD,(by exact B0 _ _ _)⟩ λI6 c8 m e H c0=>?_)
   obtain ⟨q,E6,b1,S,a9,N,a4,I,a3,F,hm,e3,e4,b6⟩:=c0
   have d6:=And.intro (dG (aD:q≠j)) (And.intro (dG (aD:q≠1)) (And.intro (dG (aD:q≠0)) (And.intro (dG (aD:j≠1)) (And.intro (dG (aD:j≠0)) (dG (aD:1≠0))))))
   have Y:=wa Y (wa E6 (wa b1 (wa (b8 S) (wa a9 (wa (b8 N) (wa a4 (wa (b8 I) (wa a3 (wa (b8 F) (wa b6 d6))))))))))
   refine vJ (λa2=>?_) λa2=>?_
   .have hml:m<d.tests.length:=aD
    have c6:d.tests[m]?.getD (0,0,0,0)=d.tests[m]:=by rw [aA hml];rfl
    have Y:=wa Y (wa a2 (wa (aA hml) @cT4.eq_1))
    refine wp (h:=aM (OQ v b5 d.tests[m]) wl ?_)
    exact wp (h:=wx c8 (m+1) ⟨q,wg,wn,wn,wn,wn,wn,wn,(by simp [go_sem,Y,RC,c6]),wn,wj,wj,aD,(by exact B0 _ _ _)⟩)
   .have hM:m=min d.tests.length 3:=aD
    exact wv (h:=hQ _ _ (by simp [go_sem,Y,eF,hG,hS,<- hM]))
end Go.Abs
end

/- The slots and the condition of a drafted rule; a plain rule. -/
import Derived.Test.YtbgbahlipnaflaaGreatZvAG
import Derived.Test.YtbgbahlipnaflaaGreatZvAA
import Derived.Test.YtbgbahlipnaflaaGreatZvAL
import Derived.Test.YtbgbahlipnaflaaGreatZvAK
set_option linter.unusedVariables false
set_option linter.unusedSimpArgs false
section
set_option maxRecDepth 100000
set_option maxHeartbeats 4000000
open Go Go.Proofs Tryz
namespace Go.Abs
def Sy (vars:Int)(ns:V2)(la:Nat)(x:B3):Slot:=⟨(x.1.toNat:Int).tmod ns.length,(x.2.1.toNat:Int).tmod la,⟨((x.2.1.toNat:Int) / 16).tmod (vars+1) - 1,(x.2.2.toNat:Int).tmod 3⟩⟩
def Pt (s y:Slot):Bool:=y.node==s.node&&y.J==s.J
def Vv (t:Types)(vars:Int)(ns:V2)(out:List Slot)(x:B3):List Slot :=
 if (bL t (nN ns ((x.1.toNat:Int).tmod ns.length))).length=0 then out
 else if out.any (Pt (Sy vars ns (bL t (nN ns ((x.1.toNat:Int).tmod ns.length))).length x))=true then out
 else out++[Sy vars ns (bL t (nN ns ((x.1.toNat:Int).tmod ns.length))).length x]
def G3 (t:Types)(vars:Int)(ns:V2)(l:List B3)(k:Nat):List Slot:=(List.range k).foldl (λout i=>Vv t vars ns out (l[i]?.getD (0,0,0))) []
def Dp (t:Types)(ns:V2)(vars:Int)(l:List B3):List Slot:=G3 t vars ns l (if ns.length=0 then 0 else min l.length 3)
theorem Me (t:Types)(a:Int)(ns:V2)(l:List B3)(k:Nat):G3 t a ns l (k+1)=Vv t a ns (G3 t a ns l k) (l[k]?.getD (0,0,0)):=by simp [G3,bR]
theorem Xo (t:Types)(a:Int)(ns:V2)(b:List Slot)(x:B3):(Vv t a ns b x).length<=b.length+1:=by grind [Vv]
theorem PN (t:Types)(vars:Int)(ns:V2)(l:List B3):∀ k,(G3 t vars ns l k).length<=k
 | 0=>by simp [G3]
 | k+1=>by rw [Me];have:=Xo t vars ns (G3 t vars ns l k) (l[k]?.getD (0,0,0));have:=PN t vars ns l k;omega
theorem P5 (t:Types)(ht:t.b6)(g:Graph)(f:Int)(hv:0<=f/\f<=1000)(l:List B3):Pua 118 [t.d,g.d,dI f,.list (l.map cT3)] (.list ((Dp t g.h f l).map Slot.c)):=by
 refine Tz.pK ⟨λt=>t==9||t==14,λr=>match r with|8=>[(3,30),(4,30),(5,30),(8,30),(12,30),(13,30),(14,30),(23,30),(24,30),(25,30)]|_=>[]⟩ func118 rfl (λQ hQ=>?_);try simp [go_sem,seval]
 obtain ⟨I0,R⟩:∃ I0:Nat->eF->AHeap->Prop,∀ (i:Nat) (e:eF) (H:AHeap),I0 i e H↔(∃ p:List Slot,(e 4=.adr t.c)/\(e 5=.adr g.c)/\(e 2=dI f)/\(e 3=.list (l.map cT3))/\(e 9=.own 0 p.length)/\(e 10=dI i)/\(H.get 0=some ⟨102,4,p.map Slot.c,false⟩)/\(0<H.next)/\(i<=3)/\(i<=l.length)/\(g.h.length=0->i=0)/\(p=G3 t f g.h l i)):=⟨λi e H=>_,λ_ _ _=>Iff.rfl⟩;refine Aa I0 (λi=>3 - i) (0) ((R _ _ _).2 ⟨([]),?_,?_,?_,?_,?_,?_,?_,?_,(by first|assumption|omega|(simp [go_sem];done)|(simp_all;done)),(by first|assumption|omega|(simp [go_sem];done)|(simp_all;done)),(by intro _;rfl),(by rfl)⟩) ?_;iterate 8 (first|omega|(simp [go_sem,seval]<;>omega))
 intro i e H c0;obtain ⟨p,a7,a5,b1,a9,a3,Z,b7,b3,hi,c9,hz,ho⟩:=(R _ _ _).1 c0;have x0:=bS b3;have L:=xa6 a7 a5 b1 a9 a3 Z b7 x0;try simp [go_sem,seval,L]
 repeat first|intro _|refine ⟨fK,?_⟩
 refine bB (λB=>?_) (λB=>?_)
 .try simp [go_sem] at B
  have o:i<l.length:=aD;have b4:0<g.h.length:=aD;have c3:¬g.h=[]:=by intro h;rw [h] at b4;simp at b4
  obtain ⟨x,E⟩:=dH (l[i]);have c1:l[i]?.getD (0,0,0)=x:=by rw [aA o,<- E];rfl
  have c8:=lA x.1;have c7:=lA x.2.1;have c6:=lA x.2.2;have t1:=eM (aD:0<=(x.1.toNat:Int)) (aD:(0:Int)<g.h.length);have F:((x.1.toNat:Int).tmod g.h.length).toNat<g.h.length:=aD;have b8:nN g.h ((x.1.toNat:Int).tmod g.h.length)=g.h[((x.1.toNat:Int).tmod g.h.length).toNat]:=by unfold nN;rw [aA F];rfl
  have a:(g.h.length:Int)≠0:=aD;have b5:=PN t f g.h l i;rw [<- ho] at b5;have P:G3 t f g.h l (i+1)=Vv t f g.h p x:=by rw [Me,c1,<- ho]
  unfold Vv at P;rw [b8] at P;have I:=Sk H.next;try simp [go_sem,seval,L,B,aA o,E,cT3,aA F,a,I]
  repeat first|intro _|refine ⟨fK,?_⟩
  refine aH (lQ t ht.ok _) ((by first|rfl|(simp [go_sem,<- List.map_take,<- List.map_drop,L,B,aA o,E,cT3,aA F,a,I];done))) ?_;try simp [go_sem,seval,L,B,aA o,E,cT3,aA F,a,I]
  repeat first|intro _|refine ⟨fK,?_⟩
  refine bB (λG=>?_) (λG=>?_)
  .try simp [go_sem] at G
   rw [if_pos (by rw [G];rfl)] at P;obtain ⟨D,n⟩:∃ y:List Slot,y=p:=⟨_,rfl⟩;have O:D=G3 t f g.h l (i+1):=by rw [P,n]
   try simp [go_sem,seval,L,B,aA o,E,cT3,aA F,a,I,n]
   repeat first|intro _|refine ⟨fK,?_⟩
   refine iO (i+1) aD ((R _ _ _).2 ⟨(D),?_,?_,?_,?_,?_,?_,?_,?_,(by first|assumption|omega|(simp [go_sem,L,B,aA o,E,cT3,aA F,a,I,n,G];done)|(simp_all<;>omega)),(by first|assumption|omega|(simp [go_sem,L,B,aA o,E,cT3,aA F,a,I,n,G];done)|(simp_all<;>omega)),aD,(by exact O)⟩)<;>first|omega|(simp [go_sem,seval,L,B,aA o,E,cT3,aA F,a,I,n]<;>omega)
  .try simp [go_sem] at G
   rw [if_neg (λh=>G (List.length_eq_zero_iff.1 h))] at P;obtain ⟨la,q⟩:=dH ((bL t g.h[((x.1.toNat:Int).tmod g.h.length).toNat]).length);rw [q] at P;have c4:0<la:=by rw [<- q];exact g7.2 G
   have t2:=eM (aD:0<=(x.2.1.toNat:Int)) (aD:(0:Int)<la);have t3:=eM (aD:0<=(x.2.1.toNat:Int) / 16) (aD:0<f+1);have t4:=eM (aD:0<=(x.2.2.toNat:Int)) (aD:(0:Int)<3);have hu:=Ts (aD:0<=(x.2.1.toNat:Int) / 16) aD;have m:(la:Int)≠0:=aD;have j:f+1≠0:=aD;obtain ⟨s,hs⟩:=dH (Sy f g.h la x);have u:s.node=(x.1.toNat:Int).tmod g.h.length:=by rw [<- hs];rfl
   have v:s.J=(x.2.1.toNat:Int).tmod la:=by rw [<- hs];rfl
   have w:s.y.O=((x.2.1.toNat:Int) / 16).tmod (f+1) - 1:=by rw [<- hs];rfl
   have z:s.y.add=(x.2.2.toNat:Int).tmod 3:=by rw [<- hs];rfl
   rw [hs] at P;try simp [go_sem,seval,L,B,aA o,E,cT3,aA F,a,I,G,q,m,j,u,v,w,z]
   repeat first|intro _|refine ⟨fK,?_⟩
   obtain ⟨I2,a0⟩:∃ I2:Nat->eF->AHeap->Prop,∀ (k:Nat) (e:eF) (H:AHeap),I2 k e H↔(∃ K:Nat,(e 4=.adr t.c)/\(e 5=.adr g.c)/\(e 2=dI f)/\(e 3=.list (l.map cT3))/\(e 9=.own 0 p.length)/\(e 10=dI i)/\(e 14=.ptr K 1 0 0)/\(e 15=.bool ((p.take k).any (Pt s)))/\(e 16=dI k)/\(H.get 0=some ⟨102,4,p.map Slot.c,false⟩)/\(0<H.next)/\(H.get K=some ⟨102,4,[[dI s.node,dI s.J,dI s.y.O,dI s.y.add]],false⟩)/\(K<H.next)/\(k<=p.length)/\(0<K)):=⟨λk e H=>_,λ_ _ _=>Iff.rfl⟩;refine Aa I2 (λk=>p.length - k) (0) ((a0 _ _ _).2 ⟨(H.next+11+12+30),?_,?_,?_,?_,?_,?_,?_,?_,?_,?_,?_,(by simp [go_sem,L,B,aA o,E,cT3,aA F,a,I,G,q,m,j,u,v,w,z,dI]),?_,(by first|assumption|omega|(simp [go_sem,L,B,aA o,E,cT3,aA F,a,I,G,q,m,j,u,v,w,z];done)|(simp_all;done)),aD⟩) ?_;iterate 12 (first|omega|(simp [go_sem,seval,L,B,aA o,E,cT3,aA F,a,I,G,q,m,j,u,v,w,z]<;>omega))
   intro k e H b9;obtain ⟨K,a6,a4,b0,a8,a2,Y,X,b,W,b6,b2,U,T,hk,c5⟩:=(a0 _ _ _).1 b9;have x0:=bS b2;have a1:=bS T;have M:=xb0 a6 a4 b0 a8 a2 Y X W b6 U x0 a1;have C:=dJ (aD:K≠0);try simp [go_sem,seval,B,aA o,E,cT3,aA F,a,I,G,q,m,j,u,v,w,z,M,b,C]
   repeat first|intro _|refine ⟨fK,?_⟩
   refine bB (λA=>?_) (λA=>?_)
   .try simp [go_sem] at A
    have N:(p.take (k+1)).any (Pt s)=((p.take k).any (Pt s)||(decide (p[k].node=(x.1.toNat:Int).tmod g.h.length)&&p[k].J==(x.2.1.toNat:Int).tmod la)):=by
     rw [List.take_succ_eq_append_getElem A,xI,List.any_cons,List.any_nil,qD,<- u,<- v];rfl
    obtain ⟨bb,c2⟩:=dH ((p.take k).any (Pt s));rw [c2] at b N;try simp [go_sem,seval,B,aA o,E,cT3,aA F,a,I,G,q,m,j,u,v,w,z,M,b,C,A,aA A,N]
    repeat first|intro _|refine ⟨fK,?_⟩
    refine iO (k+1) aD ((a0 _ _ _).2 ⟨(K),?_,?_,?_,?_,?_,?_,?_,?_,?_,?_,?_,(by simp [go_sem,B,aA o,E,cT3,aA F,a,I,G,q,m,j,u,v,w,z,M,b,C,A,aA A,N]),?_,(by first|assumption|omega|(simp [go_sem,B,aA o,E,cT3,aA F,a,I,G,q,m,j,u,v,w,z,M,b,C,A,aA A,N];done)|(simp_all<;>omega)),aD⟩)<;>first|omega|(simp [go_sem,seval,B,aA o,E,cT3,aA F,a,I,G,q,m,j,u,v,w,z,M,b,C,A,aA A,N]<;>omega)
   .try simp [go_sem] at A
    have S:p.take k=p:=aG aD;rw [S] at b;try simp [go_sem,seval,B,aA o,E,cT3,aA F,a,I,G,q,m,j,u,v,w,z,M,b,C,S]
    repeat first|intro _|refine ⟨fK,?_⟩
    refine bB (λJ=>?_) (λJ=>?_)
    .try simp [go_sem] at J
     rw [if_neg (bY J)] at P;obtain ⟨D,n⟩:∃ y:List Slot,y=p++[s]:=⟨_,rfl⟩;have O:D=G3 t f g.h l (i+1):=by rw [P,n]
     try simp [go_sem,seval,B,aA o,E,cT3,aA F,a,I,G,q,m,j,u,v,w,z,M,b,C,S,n]
     repeat first|intro _|refine ⟨fK,?_⟩
     refine iO (i+1) aD ((R _ _ _).2 ⟨(D),?_,?_,?_,?_,?_,?_,?_,?_,(by first|assumption|omega|(simp [go_sem,B,aA o,E,cT3,aA F,a,I,G,q,m,j,u,v,w,z,M,b,C,S,n,A,J];done)|(simp_all<;>omega)),(by first|assumption|omega|(simp [go_sem,B,aA o,E,cT3,aA F,a,I,G,q,m,j,u,v,w,z,M,b,C,S,n,A,J];done)|(simp_all<;>omega)),aD,(by exact O)⟩)<;>first|omega|(simp [go_sem,seval,B,aA o,E,cT3,aA F,a,I,G,q,m,j,u,v,w,z,M,b,C,S,n]<;>omega)
    .try simp [go_sem] at J
     rw [if_pos (bY J)] at P;obtain ⟨D,n⟩:∃ y:List Slot,y=p:=⟨_,rfl⟩;have O:D=G3 t f g.h l (i+1):=by rw [P,n]
     try simp [go_sem,seval,B,aA o,E,cT3,aA F,a,I,G,q,m,j,u,v,w,z,M,b,C,S,n]
     repeat first|intro _|refine ⟨fK,?_⟩
     refine iO (i+1) aD ((R _ _ _).2 ⟨(D),?_,?_,?_,?_,?_,?_,?_,?_,(by first|assumption|omega|(simp [go_sem,B,aA o,E,cT3,aA F,a,I,G,q,m,j,u,v,w,z,M,b,C,S,n,A,J];done)|(simp_all<;>omega)),(by first|assumption|omega|(simp [go_sem,B,aA o,E,cT3,aA F,a,I,G,q,m,j,u,v,w,z,M,b,C,S,n,A,J];done)|(simp_all<;>omega)),aD,(by exact O)⟩)<;>first|omega|(simp [go_sem,seval,B,aA o,E,cT3,aA F,a,I,G,q,m,j,u,v,w,z,M,b,C,S,n]<;>omega)
 .try simp [go_sem] at B
  have hI:i=(if g.h.length=0 then 0 else min l.length 3):=by
   split
   .rename_i h;exact hz h
   .rename_i h;have hq:¬ (i<l.length/\i<3):=λhh=>h (by rw [B hh.1 aD];rfl);omega
  have V:Dp t g.h f l=p:=by unfold Dp;rw [<- hI,ho]
  try simp [go_sem,seval,L]
  exact hQ _ _ (by first|(left;(simp [go_sem,L,V]);done)|(right;(simp [go_sem,L,V]);done))
theorem eQ (l:V2):eW (l.map cI)=l.map cI:=kQ λc hc=>by
 rw [aT] at hc;obtain ⟨x,_,rfl⟩:=hc;rfl
theorem qT (l:List Edge):eW (l.map Edge.c)=l.map Edge.c:=kQ λc hc=>by
 rw [aT] at hc;obtain ⟨x,_,rfl⟩:=hc;rfl
def trueC:Cond:=.mk 1 [] ⟨[],[]⟩ ⟨⟨[],[]⟩,[],0,[]⟩
def plain24 (r:Rule):Rule:=⟨r.name,⟨r.left.j,[],0,[]⟩,⟨r.right.j,[],0,[]⟩,r.q,r.s,r.inj,trueC⟩
theorem Gh (r:Rule)(g:r.left.j.h.length<=1000/\r.left.j.i.length<=1000)(f:r.right.j.h.length<=1000/\r.right.j.i.length<=1000)(e:r.q.h.length<=1000/\r.q.i.length<=1000)(b:r.s.h.length<=1000/\r.s.i.length<=1000):Pua 32 [r.d] (plain24 r).d:=by
 refine qP gt (λQ a=>(Tz.cK ⟨λt=>t==2||t==15||t==20||t==26||t==31,λr=>match r with|1=>[(0,12),(1,12),(2,12),(3,12),(4,12),(5,12),(7,12),(8,12),(9,12),(10,12),(12,13),(12,14),(12,15),(0,16),(1,16),(0,17),(1,17),(2,17),(3,17),(4,17),(5,17),(7,17),(8,17),(9,17),(10,17),(12,17),(13,17),(14,17),(15,17),(16,17),(12,18),(16,18),(17,18),(12,19),(16,19),(17,19),(12,20),(16,20),(17,20),(0,21),(1,21),(0,23),(1,23),(2,23),(3,23),(4,23),(5,23),(7,23),(8,23),(9,23),(10,23),(12,23),(13,23),(14,23),(15,23),(16,23),(17,23),(18,23),(19,23),(20,23),(21,23),(12,24),(16,24),(17,24),(21,24),(23,24),(12,25),(16,25),(17,25),(21,25),(23,25),(12,26),(16,26),(17,26),(21,26),(23,26),(0,27),(1,27),(0,28),(1,28),(2,28),(3,28),(4,28),(5,28),(7,28),(8,28),(9,28),(10,28),(12,28),(13,28),(14,28),(15,28),(16,28),(17,28),(18,28),(19,28),(20,28),(21,28),(23,28),(24,28),(25,28),(26,28),(27,28),(12,29),(16,29),(17,29),(21,29),(23,29),(27,29),(28,29),(12,30),(16,30),(17,30),(21,30),(23,30),(27,30),(28,30),(12,31),(16,31),(17,31),(21,31),(23,31),(27,31),(28,31),(0,32),(1,32),(12,34),(16,34),(17,34),(21,34),(23,34),(27,34),(28,34),(32,34),(12,35),(16,35),(17,35),(21,35),(23,35),(27,35),(28,35),(32,35)]|_=>[]⟩ func32 rfl ?_));have Y:=trivial;refine wo (h:=aH (Cm r.left.j aD aD) wl ?_);refine wo (h:=aH (Cm r.right.j aD aD) wl ?_);refine wo (h:=?_);exact a _ _ (by simp [go_sem,eQ,qT,plain24,trueC,Rule.d,Rule.c,Cond.D,Cond.u,Cond.map,Cond.o])
theorem DX (a b:UE):eW (a++b)=eW a++eW b:=by simp [xY]
def forbC (p:Pattern)(g:Graph):Cond:=.mk 2 [.mk 5 [trueC] ⟨f6 p.j.h.length,f6 p.j.i.length⟩ ⟨g,[],p.vars,[]⟩] ⟨[],[]⟩ ⟨⟨[],[]⟩,[],0,[]⟩
def Fz (t:Types)(p:Pattern)(x:B4):Cond :=
 if (x.1.toNat:Int).tmod 4=1 then forbC p ⟨p.j.h++[(x.2.1.toNat:Int).tmod t.h.length],p.j.i⟩
 else if (x.1.toNat:Int).tmod 4=2 then
  if p.j.h.length=0\/t.i.length=0 then trueC
  else forbC p ⟨p.j.h,p.j.i++[⟨(x.2.1.toNat:Int).tmod t.i.length,(x.2.2.1.toNat:Int).tmod p.j.h.length,(x.2.2.2.toNat:Int).tmod p.j.h.length⟩]⟩
 else trueC
theorem Oa (t:Types)(z:t.b6)(p:Pattern)(W:p.j.h.length<=1000)(V:p.j.i.length<=1000)(x:B4):Pua 119 [t.d,p.d,.agg (cU4 x)] (.agg (Fz t p x).c):=by
 have I:=z.ok.bz;have J:=z.ok.cV;have s:=z.aq.ne;have G:=lA x.1;have F:=lA x.2.1;have E:=lA x.2.2.1;have D:=lA x.2.2.2;refine qP gt (λQ v=>(Tz.cK ⟨λt=>t==6||t==7||t==9||t==10,λr=>match r with|6=>[(0,9),(1,9)]|10=>[(0,20),(1,20)]|_=>[]⟩ func119 rfl ?_));have Y:=@cU4.eq_1;refine wv (h:=?_);unfold fT;refine pG p.j aD aD _ _ (λa b u R M O N K j i A H=>?_);have S:(0:Nat)<u.next:=aD;have P:a≠0:=by simp [go_sem] at R;omega
 have L:b≠0:=by simp [go_sem] at M;omega
 have f:=A 0 eq;simp [go_sem] at f;have y:=Sk u.next;have l:=xa1 (bS (aD:a<u.next)) (bS (aD:b<u.next)) (bS (aD:0<u.next));have m:=xa1 (dJ (aD:0≠b)) (dJ (aD:0≠a)) (dJ (aD:b≠a));have Y:=xa5 Y l m j i f y;refine iY (λk=>?_) λk=>?_
 .have C:=eM (aD:0<=(x.2.1.toNat:Int)) (aD:(0:Int)<t.h.length);have o:¬t.h=[]:=by intro h;rw [h] at s;simp at s
  have e:(t.h.length:Int)≠0:=aD;have g:Fz t p x=forbC p ⟨p.j.h++[(x.2.1.toNat:Int).tmod t.h.length],p.j.i⟩:=by unfold Fz;rw [if_pos k]
  have Y:=xa8 Y e g @forbC.eq_1 @trueC.eq_1 @Cond.A @Cond.D.eq_1 @Cond.u.eq_1 @Cond.map.eq_1 @Cond.o.eq_1;refine wp (h:=aB (Qw p.j aD aD) wl ?_);refine wp (h:=?_);exact v _ _ (by simp [go_sem,Y,eQ,qT,DX])
 .refine dR (λn=>?_) λn=>?_
  .refine iY (λw=>?_) λw=>?_
   .have g:Fz t p x=trueC:=by unfold Fz;rw [if_neg k,if_pos n,if_pos (w.imp (λh=>by rw [h];rfl) (λh=>by rw [h];rfl))]
    have Y:=xa6 Y g @trueC.eq_1 @Cond.A @Cond.D.eq_1 @Cond.u.eq_1 @Cond.map.eq_1 @Cond.o.eq_1;refine wv (h:=?_);exact v _ _ (by simp [go_sem,cU4,l,m,j,i,f,y,g,trueC,Cond.A,Cond.D,Cond.u,Cond.map,Cond.o,k,n,w]<;>first|omega|(rw [aU];simp<;>omega)|(simp_all<;>omega))
   .have hn0:0<p.j.h.length/\0<t.i.length:=by constructor<;>(apply g7.2;intro h;simp [h] at w)
    have o:¬p.j.h=[]:=g7.1 hn0.1;have B:¬t.i=[]:=g7.1 hn0.2;have C:=eM (aD:0<=(x.2.1.toNat:Int)) (aD:(0:Int)<t.i.length);have U:=eM (aD:0<=(x.2.2.1.toNat:Int)) (aD:(0:Int)<p.j.h.length);have T:=eM (aD:0<=(x.2.2.2.toNat:Int)) (aD:(0:Int)<p.j.h.length);have e:(t.i.length:Int)≠0:=aD;have q:(p.j.h.length:Int)≠0:=aD;have g:Fz t p x=forbC p ⟨p.j.h,p.j.i++[⟨(x.2.1.toNat:Int).tmod t.i.length,(x.2.2.1.toNat:Int).tmod p.j.h.length,(x.2.2.2.toNat:Int).tmod p.j.h.length⟩]⟩:=by unfold Fz;rw [if_neg k,if_pos n,if_neg aD]
    have Y:=xa9 Y e q g @forbC.eq_1 @trueC.eq_1 @Cond.A @Cond.D.eq_1 @Cond.u.eq_1 @Cond.map.eq_1 @Cond.o.eq_1;refine wp (h:=aB (Qw p.j aD aD) wl ?_);refine wp (h:=?_);exact v _ _ (by simp [go_sem,Y,eQ,qT,DX,Edge.c])
  .have g:Fz t p x=trueC:=by unfold Fz;rw [if_neg k,if_neg n]
   have Y:=xa6 Y g @trueC.eq_1 @Cond.A @Cond.D.eq_1 @Cond.u.eq_1 @Cond.map.eq_1 @Cond.o.eq_1;refine wv (h:=?_);exact v _ _ (by simp [go_sem,cU4,l,m,j,i,f,y,g,trueC,Cond.A,Cond.D,Cond.u,Cond.map,Cond.o,k,n]<;>first|omega|(rw [aU];simp<;>omega)|(simp_all<;>omega))
theorem MH (b:List Bool):(Gu b).length<=b.length:=by
 unfold Gu aaC;rw [aR];exact dZ (jM _ _) aE
theorem RZ (k:UInt64)(a n:Nat):(Ho k a n).length=n:=by simp [Ho]
theorem MJ (g:Graph)(k:UInt64):(Cq g k).h.length<=g.h.length/\(Cq g k).i.length<=g.i.length:=by
 refine ⟨dZ (MH _) (by rw [u4,RZ];exact bC _),dZ (MH _) (by rw [RZ];exact bC _)⟩
theorem Ej (g:Graph)(p:Part):(cJ g p).h.length<=p.h.length/\(cJ g p).i.length<=p.i.length:=by grind [cJ]
def A4 (t:Types)(d:Dr24):Part:=Cq (lI t d.left).j d.q
def Re (t:Types)(d:Dr24):Graph:=cJ (lI t d.left).j (A4 t d)
def Rp (t:Types)(d:Dr24):Graph:=u5 t (Re t d) d
def Lh (t:Types)(d:Dr24):Graph:=P0 (Rp t d) (AF (Rp t d).h.length d.bi) (AF (Rp t d).i.length d.bi)
def Fb (t:Types)(d:Dr24):Rule :=
 ⟨⟨#[114]⟩,lI t d.left,⟨Lh t d,Dp t (Lh t d).h (lI t d.left).vars d.l,(lI t d.left).vars,[]⟩,A4 t d,
  ⟨(AF (Rp t d).h.length d.bi).take (Re t d).h.length,(AF (Rp t d).i.length d.bi).take (Re t d).i.length⟩,d.inj,Fz t (lI t d.left) d.b1⟩
def Fo (t:Types)(d:Dr24):Rule:=if d.plain=true then plain24 (Fb t d) else Fb t d
theorem ML (t:Types)(d:Dr21):(lI t d).j.bE/\(lI t d).j.h.length<=8/\(lI t d).j.i.length<=10/\(0<=(lI t d).vars/\(lI t d).vars<=3):=by
 have b:=Q0 t d.j;have a:=Jv t d.j;refine ⟨b,a.1,a.2,?_⟩;show 0<=(vT t d).2/\(vT t d).2<=3;unfold vT;split
 .exact ⟨by simp,by simp⟩
 .have:=HG (Vb t d) d.l (min d.l.length 4);omega
theorem Xu (g:Graph)(p q:V2):(P0 g p q).h.length<=g.h.length/\(P0 g p q).i.length<=g.i.length:=by grind [P0, DA, DB]
theorem aaQ (l:V2)(z:UN)(a:z.length=1):((l.map cI).head?.getD z).length=1:=by cases l<;>simp [cI,a]
theorem Ye (t:Types)(g:Graph)(d:Dr24):g.h.length<=(u5 t g d).h.length/\g.i.length<=(u5 t g d).i.length:=by
 refine ⟨by simp only [u5,HN];omega,by simp only [u5,W0,aI];omega⟩
theorem Wv (t:Types)(g:Graph)(d:Dr24):(u5 t g d).h.length<=g.h.length+2/\(u5 t g d).i.length<=g.i.length+2:=by
 refine ⟨?_,?_⟩
 .simp only [u5,HN];have:=Uz ((sZ t).length=0) d.h.length;omega
 .exact dZ (UM _ _ _ _ _) (Nat.add_le_add_left (Uz _ _) _)
theorem Sc {P:Program}{f:FuncId}{args args':UN}{r:D}(i:args.map WY=args')(h:Pure P f args' r):Pure P f args r:=by
 subst i;refine ⟨h.1,λM w a k b=>h.2 M w a k ⟨by simpa using b.len,λj u d g c=>?_⟩⟩;rw [aN,bV] at c;obtain ⟨y,e,rfl⟩:=c;exact On (b.Z j u y g e)
theorem IN (t:Types)(x:t.b6)(d:Dr24):Pua 52 [t.d,.agg d.c] (Fo t d).d:=by
 have v:=ML t d.left;have w:=MJ (lI t d.left).j d.q;have j:=Ej (lI t d.left).j (Cq (lI t d.left).j d.q);have b:Fo t d=if d.plain=true then plain24 (Fb t d) else Fb t d:=rfl
 unfold Fb Lh Rp Re A4 at b;obtain ⟨L,N⟩:=dH (lI t d.left);rw [N] at v w j b;obtain ⟨K,O⟩:=dH (Cq L.j d.q);rw [O] at w j b;obtain ⟨l,o⟩:∃ g,cJ L.j K=g:=⟨_,rfl⟩;rw [o] at j b;have C:=Wv t l d;have D:=Ye t l d;obtain ⟨e,J⟩:∃ g,u5 t l d=g:=⟨_,rfl⟩;rw [J] at C D b;have i:=Is e.h.length d.bi;have f:=Is e.i.length d.bi;obtain ⟨p,I⟩:=dH (AF e.h.length d.bi);obtain ⟨q,H⟩:=dH (AF e.i.length d.bi);rw [I] at i b;rw [H] at f b;have z:=Xu e p q;obtain ⟨y,n⟩:∃ g,P0 e p q=g:=⟨_,rfl⟩;rw [n] at z b;obtain ⟨R,m⟩:∃ s,Dp t y.h L.vars d.l=s:=⟨_,rfl⟩;obtain ⟨P,u⟩:∃ c,Fz t L d.b1=c:=⟨_,rfl⟩;rw [m,u] at b;have B:=i.1;have A:=f.1;have F:=aaQ p;have E:=aaQ q;have G:=Cond.A P;refine Tz.pK ⟨λt=>t==4||t==5||t==6||t==7||t==8||t==10,λr=>match r with|2=>[(0,9),(1,9),(2,9),(3,9),(4,9),(5,9),(6,9),(7,9)]|_=>[]⟩ func52 rfl (λQ M=>?_);have Y:=xa4 @Dr24.c.eq_1 F E B A G;refine wv (h:=aB ((by have a:=SY t x d.left;rw [N] at a;exact a)) wl ?_);refine wv (h:=aH ((by have a:=S4 L.j aD aD v.1 d.q;rw [O] at a;exact a)) wl ?_);refine wv (h:=aB ((by have a:=wZ L.j K aD aD;rw [o] at a;exact a)) wl ?_);refine wv (h:=aB ((by have a:=P7 t x l aD aD d;rw [J] at a;exact a)) wl ?_);refine wp (h:=aH ((by have a:=Cl e.h.length aD d.bi;rw [I] at a;exact a)) wl ?_);refine wp (h:=aH ((by have a:=Cl e.i.length aD d.bi;rw [H] at a;exact a)) wl ?_);refine wp (h:=aB ((by have a:=Lv e aD aD p q i f;rw [n] at a;exact a)) wl ?_);refine wp (h:=aB ((by have a:=P5 t x y L.vars aD d.l;rw [m] at a;exact a)) wl ?_);refine wp (h:=aB ((by have a:=Oa t x L aD aD d.b1;rw [u] at a;exact a)) wl ?_);refine iY (λk=>?_) λk=>?_
 .refine wv (h:=aB (Sc (by simp [go_sem,Rule.d,Rule.c,dLI]) (Gh ⟨⟨#[114]⟩,L,⟨y,R,L.vars,[]⟩,K,⟨p.take l.h.length,q.take l.i.length⟩,d.inj,P⟩ (by simp only;omega) (by simp only;omega) (by simp only;omega) (by simp only [cX];omega))) wl ?_);have Y:=wa Y k;exact wv (h:=M _ _ wy)
 .have Y:=wa Y k;exact wv (h:=M _ _ wy)
def iC (im keep:V2):V2:=((List.range im.length).filter λ(i:Nat)=>!mem keep i).map λi=>im[i]?.getD 0
def yN (g:Graph)(me gone:V2)(k:Nat):Bool:=!mem me k&&(mem gone (g.i[k]?.getD cH).w||mem gone (g.i[k]?.getD cH).M)
def wQ (g:Graph)(me gone:V2):V2:=((List.range g.i.length).filter (yN g me gone)).map λ(b:Nat)=>(b:Int)
def tE (im keep:V2)(i k:Nat):Bool:=decide (im[i]?.getD 0=im[k]?.getD 0)&&(!mem keep i||!mem keep k)
def mQ (im keep:V2)(i j:Nat):List (Nat × Nat):=((List.range j).filter λb=>tE im keep i (i+1+b)).map λb=>(i,i+1+b)
def FF (im keep:V2)(n:Nat):List (Nat × Nat):=(List.range n).flatMap λi=>mQ im keep i (im.length - (i+1))
def oD (im keep:V2):List (Nat × Nat):=FF im keep im.length
def cPr (p:Nat × Nat):UN:=[dI p.1,dI p.2]
@[go_sem] theorem acZ (p:Nat × Nat):D.L (cPr p)=true:=rfl
@[go_sem] theorem ai7 (l:List (Nat × Nat)):D.R (l.map cPr)=true:=d9 _ acZ l
theorem RC (a keep:V2)(i j:Nat):mQ a keep i (j+1)=mQ a keep i j++(if tE a keep i (i+1+j)=true then [(i,i+1+j)] else []):=by
 unfold mQ;rw [bR,fN,List.map_append];grind
theorem FE (a keep:V2)(n:Nat):FF a keep (n+1)=FF a keep n++mQ a keep n (a.length - (n+1)):=by
 unfold FF;rw [bR,List.flatMap_append];simp
theorem C4 (a keep:V2)(i j:Nat):(mQ a keep i j).length<=j:=by
 unfold mQ;rw [aR];exact dZ (jM _ _) aE
theorem yK (im keep:V2):∀ n,(FF im keep n).length<=n * im.length
 | 0=>by simp [FF]
 | n+1=>by
  have h1:=yK im keep n;have h2:=C4 im keep n (im.length - (n+1));rw [FE,aI,Nat.add_mul];omega
theorem rY (a keep:V2){i:Nat}(h:i<a.length):((List.range (i+1)).filter λ(i:Nat)=>!mem keep i).map (λi=>a[i]?.getD 0)=((List.range i).filter λ(i:Nat)=>!mem keep i).map (λi=>a[i]?.getD 0)++(if (!mem keep i)=true then [a[i]] else []):=by
 rw [bR,fN,List.map_append];grind
theorem rZ {a keep:V2}{x:Int}:x∈iC a keep↔∃ i:Nat,i<a.length/\mem keep i=false/\a[i]?=some x:=by
 unfold iC;grind
def compG (l g:Graph)(keep m:Part):Int:=if eR l g m≠0 then eR l g m else subF l keep
def oZ (l g:Graph)(keep m:Part):Int :=
 if compG l g keep m≠0 then compG l g keep m
 else if 0<(oD m.h keep.h).length+(oD m.i keep.i).length then 15
 else if 0<(wQ g m.i (iC m.h keep.h)).length then 14 else 0
def u9 (l g:Graph)(keep m:Part):Part:=if oZ l g keep m=0 then ⟨bH (iC m.h keep.h) g.h.length,bH (iC m.i keep.i) g.i.length⟩ else ⟨[],[]⟩
theorem rS (l:V2)(v:Int):Pua 338 [dLI l,dI v] (.bool (mem l v)):=by
 refine Tz.p0 func338 rfl λQ m Y=>?_;refine wv (h:=bA (λi e H=>(e 0=dLI l/\e 1=dI v/\e 5=dI i)/\(i<=l.length)/\(∀ j,j<i->l[j]?≠some v)) (λi=>l.length - i) 0 ⟨wg,wi,(by intro j k;omega)⟩ λu f i e H d=>?_);obtain ⟨p,s,a⟩:=d;have Y:=wa Y p;refine wv (h:=?_);repeat first|intro _|refine ⟨t,?_⟩
 refine wq (λb=>?_) λb=>?_
 .have Y:=wa Y b;refine wv (h:=?_);refine wq (λg=>?_) λg=>?_
  .refine wv (h:=?_);have c:mem l v=true:=(mem_iff l v).2 (g ▸ aC b);exact m _ _ (iq c)
  .exact wo (h:=wx f (i+1) ⟨wg,wj,(lX a (by rw [aA b];simpa using g))⟩)
 .refine wv (h:=?_);have c:mem l v=false:=by rw [bJ];intro h;obtain ⟨j,k,o⟩:=aO ((mem_iff l v).1 h);exact a j aD (by rw [aA k,o])
  exact m _ _ (iq c)
theorem IV (l:V2)(n:Nat)(v:n<=1000000):Pua 264 [dI n,dLI l] (dLI (bH l n)):=by
 refine Tz.pK ⟨λt=>t==5,λ_=>[]⟩ func264 rfl (λQ r=>?_);have Y:=trivial;refine wv (h:=bA (λi e H=>∃ a:V2,(e 1=dLI l/\e 0=dI n/\e 5=.own 0 a.length/\e 6=dI i)/\(H.get 0=some ⟨3,1,a.map cI,false⟩)/\(0<H.next)/\(i<=n)/\(a.length<=i)/\(a=((List.range i).filter λ(b:Nat)=>!mem l b).map (λ(b:Nat)=>(b:Int)))) (λi=>n - i) 0 ⟨([]),wg,wn,wn,wi,aE,(by rfl)⟩ λz f i e H k=>?_);obtain ⟨a,s,g,d,x,w,j⟩:=k;have Y:=xa2 Y s g (bS d);refine dR (λp=>?_) λp=>?_
 .have Y:=wa Y p;refine wo (h:=aB (rS l i) wl ?_);refine eP (λm=>?_) λm=>?_
  .have Y:=wa Y m;exact wo (h:=wx f (i+1) ⟨(a++(if (!mem l i)=true then [(i:Int)] else [])),wg,wn,wn,wj,ik,(by rw [c6,<- j])⟩)
  .have Y:=wa Y m;exact wo (h:=wx f (i+1) ⟨(a++(if (!mem l i)=true then [(i:Int)] else [])),wg,wn,wn,wj,ik,(by rw [c6,<- j])⟩)
 .exact wv (h:=r _ _ (by simp [go_sem,Y,bH];rw [j,(aD:i=n)];simp))
theorem CF (a keep:V2)(v:a.length<=1000000):Pua 265 [dLI a,dLI keep] (dLI (iC a keep)):=by
 refine Tz.pK ⟨λt=>t==5,λ_=>[]⟩ func265 rfl (λQ r=>?_);have Y:=trivial;refine wv (h:=bA (λi e H=>∃ c:V2,(e 0=dLI a/\e 1=dLI keep/\e 5=.own 0 c.length/\e 6=dI i)/\(H.get 0=some ⟨3,1,c.map cI,false⟩)/\(0<H.next)/\(i<=a.length)/\(c.length<=i)/\(c=((List.range i).filter λ(b:Nat)=>!mem keep b).map (λi=>a[i]?.getD 0))) (λi=>a.length - i) 0 ⟨([]),wg,wn,wn,wi,aE,(by rfl)⟩ λz g i e H m=>?_);obtain ⟨c,s,k,f,x,w,l⟩:=m;have Y:=xa2 Y s k (bS f);refine eP (λj=>?_) λj=>?_
 .have Y:=xa1 Y j (aA j);refine wo (h:=aB (rS keep i) wl ?_);refine eP (λn=>?_) λn=>?_
  .have Y:=wa Y n;exact wo (h:=wx g (i+1) ⟨(c++(if (!mem keep i)=true then [a[i]] else [])),wg,wn,wn,wj,ik,(by rw [rY _ _ j,<- l])⟩)
  .have Y:=wa Y n;exact wo (h:=wx g (i+1) ⟨(c++(if (!mem keep i)=true then [a[i]] else [])),wg,wn,wn,wj,ik,(by rw [rY _ _ j,<- l])⟩)
 .refine wv (h:=?_);have q:iC a keep=c:=by rw [l,(aD:i=a.length)];rfl
  exact r _ _ (iv q)
theorem RF {g:Graph}{me gone:V2}{k:Nat}(h:k<g.i.length):yN g me gone k=(!mem me k&&(mem gone g.i[k].w||mem gone g.i[k].M)):=by
 unfold yN;rw [aA h];rfl
theorem IW (l g:Graph)(keep m:Part)(y:m.h.length<=1000000)(p:g.i.length<=1000000):Pua 263 [l.d,g.d,keep.d,m.d] (dLI (wQ g m.i (iC m.h keep.h))):=by
 obtain ⟨f,u⟩:=dH (iC m.h keep.h);refine Tz.pK ⟨λt=>t==9,λ_=>[]⟩ func263 rfl (λQ A=>?_);have Y:=u;refine wv (h:=aB (CF m.h keep.h y) wl ?_);refine wv (h:=bA (λk e H=>∃ a:V2,(e 5=.adr g.c/\e 7=.adr m.c/\e 10=dLI f/\e 9=.own 0 a.length/\e 11=dI k)/\(H.get 0=some ⟨3,1,a.map cI,false⟩)/\(0<H.next)/\(k<=g.i.length)/\(a.length<=k)/\(a=((List.range k).filter (yN g m.i f)).map (λ(b:Nat)=>(b:Int)))) (λk=>g.i.length - k) 0 ⟨([]),wg,wn,wn,wi,aE,(by rfl)⟩ λJ n k e H s=>?_);obtain ⟨a,D,o,j,G,F,r⟩:=s;have Y:=xa2 Y D o (bS j);refine eP (λq=>?_) λq=>?_
 .have hdb:=RF (me:=m.i) (gone:=f) q;have C:=rS f g.i[k].w;have B:=rS f g.i[k].M;have Y:=xa2 Y q (aA q) hdb;refine wo (h:=aB (rS m.i k) wl ?_);refine wo (h:=aK (λp=>C) (λp=>wl) ?_);refine wo (h:=aK (λp=>B) (λp=>wl) ?_);refine eP (λv=>?_) λv=>?_
  .have Y:=wa Y v;exact wo (h:=wx n (k+1) ⟨(a++(if yN g m.i f k=true then [(k:Int)] else [])),wg,wn,wn,wj,ik,(by rw [c6,<- r])⟩)
  .have Y:=wa Y v;exact wo (h:=wx n (k+1) ⟨(a++(if yN g m.i f k=true then [(k:Int)] else [])),wg,wn,wn,wj,ik,(by rw [c6,<- r])⟩)
 .refine wv (h:=?_);have z:wQ g m.i f=a:=by rw [r,(aD:k=g.i.length)];rfl
  exact A _ _ (iv z)
theorem Qs (l g:Graph)(keep m:Part)(c:keep.h.length<=1000000):Pua 261 [l.d,g.d,keep.d,m.d] (dI (compG l g keep m)):=by
 refine Tz.p0 func261 rfl λQ b Y=>?_;refine wv (h:=aB (v7 l g m) wl ?_);refine dR (λa=>?_) λa=>?_
 .have Y:=xa1 Y a @compG.eq_1;exact wv (h:=b _ _ wy)
 .refine wv (h:=aB (AP l keep) wl ?_);have Y:=xa1 Y a @compG.eq_1;exact wv (h:=b _ _ wy)
theorem Yo {a keep:V2}{i k:Nat}(c:i<a.length)(b:k<a.length):tE a keep i k=(decide (a[i]=a[k])&&(!mem keep i||!mem keep k)):=by
 unfold tE;rw [aA c,aA b];rfl
theorem uI (a keep:V2){i k:Nat}(h:i+1<=k):mQ a keep i (k+1 - (i+1))=mQ a keep i (k - (i+1))++(if tE a keep i k=true then [(i,k)] else []):=by
 rw [show k+1 - (i+1)=(k - (i+1))+1 by omega,RC,show i+1+(k - (i+1))=k by omega]
theorem xR (a keep:V2)(A:a.length<=1000):Pua 262 [dLI a,dLI keep] (.list ((oD a keep).map cPr)):=by
 refine Tz.pK ⟨λt=>t==5,λ_=>[]⟩ func262 rfl (λQ G=>?_);have Y:=trivial;refine wv (h:=bA (λi e H=>∃ d:List (Nat × Nat),(e 0=dLI a/\e 1=dLI keep/\e 5=.own 0 d.length/\e 6=dI i)/\(H.get 0=some ⟨368,2,d.map cPr,false⟩)/\(0<H.next)/\(i<=a.length)/\(d=FF a keep i)) (λi=>a.length - i) 0 ⟨([]),wg,wn,wn,wi,(by rfl)⟩ λP y i e H w=>?_);obtain ⟨d,K,o,l,L,s⟩:=w;have Y:=xa2 Y K o (bS l);refine eP (λg=>?_) λg=>?_
 .have Y:=xa1 Y g (aA g);refine wo (h:=bA (λk e H=>∃ b:List (Nat × Nat),(e 0=dLI a/\e 1=dLI keep/\e 5=.own 0 b.length/\e 6=dI i/\e 7=dI k)/\(H.get 0=some ⟨368,2,b.map cPr,false⟩)/\(0<H.next)/\(i+1<=k)/\(k<=a.length)/\(b=d++mQ a keep i (k - (i+1)))/\(b.length<=1000000)) (λk=>a.length - k) (i+1) ⟨d,wg,wn,wn,wi,wi,(by simp [mQ]),(by have:=yK a keep i;have:i * a.length<=1000 * 1000:=lH aD A;rw [s];omega)⟩ λO m k e H v=>?_);obtain ⟨b,J,n,j,E,D,r,C⟩:=v;have Y:=xa2 Y J n (bS j);refine eP (λu=>?_) λu=>?_
  .have hd:=Yo (keep:=keep) g u;have f:(b++(if tE a keep i k=true then [(i,k)] else [])).length<=1000000:=by
    have I:b++(if tE a keep i k=true then [(i,k)] else [])=FF a keep i++mQ a keep i (k+1 - (i+1)):=by rw [uI _ _ aD,<- List.append_assoc,r,s]
    rw [I,aI];have N:=yK a keep i;have M:=C4 a keep i (k+1 - (i+1));have g:i * a.length+a.length<=1000 * 1000:=by
     have:=lH (aD:i+1<=1000) A;rw [Nat.add_mul] at this;omega
    omega
   have Y:=xa3 Y g (aA g) u (aA u);refine wo (h:=dM (λx=>rS keep i) (λx=>wl) ?_);refine wo (h:=dM (λx=>rS keep k) (λx=>wl) ?_);refine eP (λB=>?_) λB=>?_
   .have hdt:tE a keep i k=true:=by rw [hd];simpa using B
    have Y:=xa1 Y hdt @cPr.eq_1;exact wo (h:=wx m (k+1) ⟨(b++(if tE a keep i k=true then [(i,k)] else [])),wg,wn,wn,wj,wj,(by rw [uI _ _ aD,<- List.append_assoc,<- r]),(f)⟩)
   .have hdf:tE a keep i k=false:=by rw [hd,bJ];intro F;simp at F;simp_all
    have Y:=wa Y hdf;exact wo (h:=wx m (k+1) ⟨(b++(if tE a keep i k=true then [(i,k)] else [])),wg,wn,wn,wj,wj,(by rw [uI _ _ aD,<- List.append_assoc,<- r]),(f)⟩)
  .have hJ:k=a.length:=aD;subst hJ;subst r;exact wo (h:=wx y (i+1) ⟨(d++mQ a keep i (a.length - (i+1))),wg,wn,wn,wj,(by rw [FE,<- s])⟩)
 .have hX:oD a keep=d:=by rw [s,(aD:i=a.length)];rfl
  exact wv (h:=G _ _ (iv hX))
theorem Em {a keep:V2}(h:a.length<=1000):(oD a keep).length<=1000000:=by
 have c:=yK a keep a.length;have b:a.length * a.length<=1000 * 1000:=lH h h;unfold oD;omega
theorem Xw (l g:Graph)(keep m:Part)(p:keep.h.length<=1000000)(e:m.h.length<=1000)(c:m.i.length<=1000)(k:g.h.length<=1000000)(f:g.i.length<=1000000):Pua 172 [l.d,g.d,keep.d,m.d] (.tup [(u9 l g keep m).d,dI (oZ l g keep m)]):=by
 have r:=Em (keep:=keep.h) e;have q:=Em (keep:=keep.i) c;refine Tz.pK ⟨λt=>t==8,λ_=>[]⟩ func172 rfl (λQ i=>?_);have Y:=trivial;refine wv (h:=aB (Qs l g keep m p) wl ?_);refine dR (λj=>?_) λj=>?_
 .have a:oZ l g keep m=compG l g keep m:=if_pos j;have b:u9 l g keep m=⟨[],[]⟩:=if_neg (by rw [a];exact j);exact wv (h:=i _ _ (iu a b))
 .have a:oZ l g keep m=if 0<(oD m.h keep.h).length+(oD m.i keep.i).length then 15 else if 0<(wQ g m.i (iC m.h keep.h)).length then 14 else 0:=if_neg (by rw [j];simp)
  refine wo (h:=aH (xR m.h keep.h e) wl ?_);refine wo (h:=aH (xR m.i keep.i c) wl ?_);refine eP (λo=>?_) λo=>?_
  .rw [if_pos aD] at a;have b:u9 l g keep m=⟨[],[]⟩:=if_neg (by rw [a];simp);exact wv (h:=i _ _ (iu a b))
  .rw [if_neg (by first|omega|simp [o])] at a;refine wo (h:=aB (IW l g keep m aD f) wl ?_);refine eP (λn=>?_) λn=>?_
   .rw [if_pos aD] at a;have b:u9 l g keep m=⟨[],[]⟩:=if_neg (by rw [a];simp);exact wv (h:=i _ _ (iu a b))
   .rw [if_neg (by first|omega|simp [n])] at a;have b:u9 l g keep m=⟨bH (iC m.h keep.h) g.h.length,bH (iC m.i keep.i) g.i.length⟩:=if_pos a;refine wo (h:=aH (CF m.h keep.h aD) wl ?_);refine wo (h:=aH (IV (iC m.h keep.h) g.h.length k) wl ?_);refine wo (h:=aH (CF m.i keep.i aD) wl ?_);refine wo (h:=aH (IV (iC m.i keep.i) g.i.length f) wl ?_);exact wo (h:=i _ _ (iu a b))
theorem yP (a keep:V2)(A:a.length<=1000):Pua 328 [dLI a,dLI keep] (.list ((oD a keep).map cPr)):=by
 refine Tz.pK ⟨λt=>t==5,λ_=>[]⟩ func328 rfl (λQ G=>?_);have Y:=trivial;refine wo (h:=bA (λi e H=>∃ d:List (Nat × Nat),(e 0=dLI a/\e 1=dLI keep/\e 9=dI a.length/\e 5=.own 0 d.length/\e 10=dI i)/\(H.get 0=some ⟨368,2,d.map cPr,false⟩)/\(0<H.next)/\(i<=a.length)/\(d=FF a keep i)) (λi=>a.length - i) 0 ⟨([]),wg,wn,wn,wi,(by rfl)⟩ λP y i e H w=>?_);obtain ⟨d,K,o,l,L,s⟩:=w;have Y:=xa2 Y K o (bS l);refine dR (λg=>?_) λg=>?_
 .have Y:=xa1 Y g (aA g);refine wo (h:=bA (λk e H=>∃ b:List (Nat × Nat),(e 0=dLI a/\e 1=dLI keep/\e 9=dI a.length/\e 5=.own 0 b.length/\e 6=dI i/\e 10=dI i/\e 7=dI k)/\(H.get 0=some ⟨368,2,b.map cPr,false⟩)/\(0<H.next)/\(i+1<=k)/\(k<=a.length)/\(b=d++mQ a keep i (k - (i+1)))/\(b.length<=1000000)) (λk=>a.length - k) (i+1) ⟨d,wg,wn,wn,wi,wi,(by simp [mQ]),(by have:=yK a keep i;have:i * a.length<=1000 * 1000:=lH aD A;rw [s];omega)⟩ λO m k e H v=>?_);obtain ⟨b,J,n,j,E,D,r,C⟩:=v;have Y:=xa2 Y J n (bS j);refine eP (λu=>?_) λu=>?_
  .have hd:=Yo (keep:=keep) g u;have f:(b++(if tE a keep i k=true then [(i,k)] else [])).length<=1000000:=by
    have I:b++(if tE a keep i k=true then [(i,k)] else [])=FF a keep i++mQ a keep i (k+1 - (i+1)):=by rw [uI _ _ aD,<- List.append_assoc,r,s]
    rw [I,aI];have N:=yK a keep i;have M:=C4 a keep i (k+1 - (i+1));have g:i * a.length+a.length<=1000 * 1000:=by
     have:=lH (aD:i+1<=1000) A;rw [Nat.add_mul] at this;omega
    omega
   have Y:=xa3 Y g (aA g) u (aA u);refine wo (h:=dM (λx=>gF keep i) (λx=>wl) ?_);refine wo (h:=dM (λx=>gF keep k) (λx=>wl) ?_);refine eP (λB=>?_) λB=>?_
   .have hdt:tE a keep i k=true:=by rw [hd];simpa using B
    have Y:=xa1 Y hdt @cPr.eq_1;exact wo (h:=wx m (k+1) ⟨(b++(if tE a keep i k=true then [(i,k)] else [])),wg,wn,wn,wj,wj,(by rw [uI _ _ aD,<- List.append_assoc,<- r]),(f)⟩)
   .have hdf:tE a keep i k=false:=by rw [hd,bJ];intro F;simp at F;simp_all
    have Y:=wa Y hdf;exact wo (h:=wx m (k+1) ⟨(b++(if tE a keep i k=true then [(i,k)] else [])),wg,wn,wn,wj,wj,(by rw [uI _ _ aD,<- List.append_assoc,<- r]),(f)⟩)
  .have hJ:k=a.length:=aD;subst hJ;subst r;exact wo (h:=wx y (i+1) ⟨(d++mQ a keep i (a.length - (i+1))),wg,wn,wn,wj,(by rw [FE,<- s])⟩)
 .have hX:oD a keep=d:=by rw [s,(aD:i=a.length)];rfl
  exact wv (h:=G _ _ (iv hX))
def wG (n:Nat)(l:V2):List Bool:=l.foldl (λacc x=>acc.set x.toNat true) (List.replicate n false)
theorem Jr (n:Nat)(l:V2)(x:Int):wG n (l++[x])=(wG n l).set x.toNat true:=by unfold wG;rw [iL];rfl
theorem Fl (n:Nat)(l:V2):(wG n l).length=n:=by
 unfold wG;have:∀ (l:V2) (a:List Bool),a.length=n->(l.foldl (λb x=>b.set x.toNat true) a).length=n:=by
  intro l;induction l with
  | nil=>intro a h;exact h
  | cons x l ih=>intro a h;exact ih _ (bY h)
 grind
theorem Wc (n:Nat):∀ (l:V2),(∀ x∈l,0<=x/\x<n)->∀ i:Nat,i<n->(wG n l)[i]?=some (mem l i):=by
 have:∀ (l:V2) (a:List Bool),a.length=n->(∀ x∈l,0<=x/\x<n)->∀ i:Nat,i<n->(l.foldl (λf x=>f.set x.toNat true) a)[i]?=some (a[i]?.getD false||mem l i):=by
  intro l;induction l with
  | nil=>intro a h _ i d;rw [List.foldl_nil,aA aD,BB];simp
  | cons x l ih =>
   intro a h e i d;have m:=e x aE;rw [pD,ih _ (bY h) (λy j=>e y (iw j)) i d];congr 1;have k:mem (x :: l) (i:Int)=(decide ((i:Int)=x)||mem l i):=by
    rw [aU,mem_iff,c8,mem_iff,decide_eq_true_eq,aW]
   rw [k];by_cases g:x.toNat=i
   .subst g;rw [List.getElem?_set_self aD];grind
   .rw [List.getElem?_set_ne g];have:¬ ((i:Int)=x):=aD;simp [this]
 intro l e i d;unfold wG;rw [this l _ aE e i d];simp [d]
theorem Af (n:Nat)(Z:n<=1000000)(d keep:V2)(S:d.length<=1000000)(A:∀ x∈d,0<=x/\x<n):Pua 248 [dI n,dLI d,dLI keep] (dLI (bH (iC d keep) n)):=by
 refine Tz.pK ⟨λt=>t==14||t==10,λ_=>[]⟩ func248 rfl (λQ V=>?_);have Y:=trivial;refine wo (h:=bA (λi e H=>∃ a:V2,(e 0=dI n/\e 2=dLI keep/\e 15=dLI d/\e 16=dI d.length/\e 7=.own 0 n/\e 17=dI i)/\(H.get 0=some ⟨4,1,(wG n a).map cB,false⟩)/\(0<H.next)/\(i<=d.length)/\((wG n a).length=n)/\(a=((List.range i).filter λ(b:Nat)=>!mem keep b).map (λi=>d[i]?.getD 0))) (λi=>d.length - i) 0 ⟨([]),wg,(by simp [go_sem,wG,cB]),wn,wi,(Fl _ _),(by rfl)⟩ λI0 D i e H K=>?_);obtain ⟨a,X,F,y,hi,L,I⟩:=K;have Y:=xa2 Y X F (bS y);refine dR (λu=>?_) λu=>?_
 .have hb:=A _ (aC u);have N:d[i].toNat<(wG n a).length:=aD;have Y:=xa2 Y u (aA u) (aA N);refine wo (h:=aB (gF keep i) wl ?_);refine eP (λO=>?_) λO=>?_
  .have Y:=wa Y O;exact wo (h:=wx D (i+1) ⟨(a++(if (!mem keep i)=true then [d[i]] else [])),wg,(by simp [go_sem,Y,Jr,cB]),wn,wj,(Fl _ _),(by rw [rY _ _ u,<- I])⟩)
  .have Y:=wa Y O;exact wo (h:=wx D (i+1) ⟨(a++(if (!mem keep i)=true then [d[i]] else [])),wg,cl,wn,wj,(Fl _ _),(by rw [rY _ _ u,<- I])⟩)
 .have B:iC d keep=a:=by rw [I,(aD:i=d.length)];rfl
  have M:∀ x∈a,0<=x/\x<n:=λx z=>by
   rw [<- B,rZ] at z;obtain ⟨j,_,_,h⟩:=z;exact A x (aL h)
  refine wo (h:=bA (λk e H=>∃ m:V2,∃ c:Nat,(e 0=dI n/\e 2=dLI keep/\e 15=dLI d/\e 16=dI d.length/\e 30=.own 0 n/\e 31=dI n/\e 32=dI k/\e 10=.own c m.length)/\(H.get 0=some ⟨4,1,(wG n a).map cB,false⟩)/\(0<H.next)/\(H.get c=some ⟨3,1,m.map cI,false⟩)/\(c<H.next)/\(c≠0)/\(k<=n)/\(m.length<=k)/\(m=((List.range k).filter λ(b:Nat)=>!mem a b).map (λ(b:Nat)=>(b:Int)))) (λk=>n - k) 0 ⟨([]),H.next,wg,wn,wn,wn,wn,aD,wi,aE,(by rfl)⟩ λI2 C k e H J=>?_);obtain ⟨m,c,W,E,w,l,g,U,hk,hl,o⟩:=J;have P:=dJ (aD:0≠c);have Y:=xa6 Y W E (bS w) l (bS g) L P;refine dR (λq=>?_) λq=>?_
  .have hkm:k<(wG n a).length:=aD;have T:(wG n a)[k]=mem a k:=by have:=Wc n a M k q;rw [aA hkm] at this;exact Option.some.inj this
   have Y:=xa2 Y q (aA hkm) T;refine eP (λp=>?_) λp=>?_
   .have Y:=wa Y p;exact wo (h:=wx C (k+1) ⟨(m++(if (!mem a k)=true then [(k:Int)] else [])),c,wg,wn,wn,wn,wn,aD,wj,ik,(by rw [c6,<- o])⟩)
   .have Y:=wa Y p;exact wo (h:=wx C (k+1) ⟨(m++(if (!mem a k)=true then [(k:Int)] else [])),c,wg,wn,wn,wn,wn,aD,wj,ik,(by rw [c6,<- o])⟩)
  .exact wv (h:=V _ _ (by simp [go_sem,Y,B,bH];rw [o,(aD:k=n)];simp))
def gluC (l g:Graph)(keep m:Part):UN:=[dLI l.h,.list (l.i.map Edge.c),dLI g.h,.list (g.i.map Edge.c),dLI keep.h,dLI keep.i,dLI m.h,dLI m.i]
theorem FI (l g:Graph)(keep m:Part)(c:keep.h.length<=1000000):Pua 245 [.agg (gluC l g keep m)] (dI (compG l g keep m)):=by
 refine Tz.p0 func245 rfl λQ b _=>?_;have Y:=@gluC.eq_1;refine wv (h:=aB (qW l g m) wl ?_);refine dR (λa=>?_) λa=>?_
 .have Y:=xa1 Y a @compG.eq_1;exact wv (h:=b _ _ wy)
 .refine wv (h:=aB (AB l keep c) wl ?_);have Y:=xa1 Y a @compG.eq_1;exact wv (h:=b _ _ wy)
theorem C6 (l g:Graph)(keep m:Part)(x:m.h.length<=1000000):Pua 329 [.agg (gluC l g keep m)] (dLI (iC m.h keep.h)):=by
 refine Tz.pK ⟨λt=>t==3,λ_=>[]⟩ func329 rfl (λQ u=>?_);have Y:=@gluC.eq_1;refine wo (h:=bA (λi e H=>∃ a:V2,(e 1=.adr (gluC l g keep m)/\e 8=dLI m.h/\e 9=dI m.h.length/\e 3=.own 0 a.length/\e 10=dI i)/\(H.get 0=some ⟨3,1,a.map cI,false⟩)/\(0<H.next)/\(i<=m.h.length)/\(a.length<=i)/\(a=((List.range i).filter λ(b:Nat)=>!mem keep.h b).map (λi=>m.h[i]?.getD 0))) (λi=>m.h.length - i) 0 ⟨([]),wg,wn,wn,wi,aE,(by rfl)⟩ λB f i e H o=>?_);obtain ⟨a,v,k,d,z,y,n⟩:=o;have Y:=xa2 Y v k (bS d);refine dR (λj=>?_) λj=>?_
 .have Y:=xa1 Y j (aA j);refine wo (h:=aB (gF keep.h i) wl ?_);refine eP (λp=>?_) λp=>?_
  .have Y:=wa Y p;exact wo (h:=wx f (i+1) ⟨(a++(if (!mem keep.h i)=true then [m.h[i]] else [])),wg,wn,wn,wj,ik,(by rw [rY _ _ j,<- n])⟩)
  .have Y:=wa Y p;exact wo (h:=wx f (i+1) ⟨(a++(if (!mem keep.h i)=true then [m.h[i]] else [])),wg,wn,wn,wj,ik,(by rw [rY _ _ j,<- n])⟩)
 .refine wv (h:=?_);have s:iC m.h keep.h=a:=by rw [n,(aD:i=m.h.length)];rfl
  exact u _ _ (iv s)
theorem BZ (l g:Graph)(keep m:Part)(x:m.h.length<=1000000)(o:g.i.length<=1000000):Pua 247 [.agg (gluC l g keep m)] (dLI (wQ g m.i (iC m.h keep.h))):=by
 obtain ⟨d,s⟩:=dH (iC m.h keep.h);refine Tz.pK ⟨λt=>t==6||t==4,λ_=>[]⟩ func247 rfl (λQ z=>?_);have Y:=wa s @gluC.eq_1;refine wv (h:=aB ((by have:=C6 l g keep m x;simp only [gluC] at this;exact this)) wl ?_);refine wo (h:=bA (λk e H=>∃ a:V2,(e 1=.adr (gluC l g keep m)/\e 3=dLI d/\e 11=.list (g.i.map Edge.c)/\e 12=dI g.i.length/\e 4=.own 0 a.length/\e 13=dI k)/\(H.get 0=some ⟨3,1,a.map cI,false⟩)/\(0<H.next)/\(k<=g.i.length)/\(a.length<=k)/\(a=((List.range k).filter (yN g m.i d)).map (λ(b:Nat)=>(b:Int)))) (λk=>g.i.length - k) 0 ⟨([]),wg,wn,wn,wi,aE,(by rfl)⟩ λI j k e H r=>?_);obtain ⟨a,C,n,i,F,E,q⟩:=r;have Y:=xa2 Y C n (bS i);refine dR (λp=>?_) λp=>?_
 .have hdb:=RF (me:=m.i) (gone:=d) p;have B:=gF d g.i[k].w;have A:=gF d g.i[k].M;have Y:=xa3 Y p (aA p) hdb @Edge.c.eq_1;refine wo (h:=aB (gF m.i k) wl ?_);refine wo (h:=aK (λo=>B) (λo=>wl) ?_);refine wo (h:=aK (λo=>A) (λo=>wl) ?_);refine eP (λu=>?_) λu=>?_
  .have Y:=wa Y u;exact wo (h:=wx j (k+1) ⟨(a++(if yN g m.i d k=true then [(k:Int)] else [])),wg,wn,wn,wj,ik,(by rw [c6,<- q])⟩)
  .have Y:=wa Y u;exact wo (h:=wx j (k+1) ⟨(a++(if yN g m.i d k=true then [(k:Int)] else [])),wg,wn,wn,wj,ik,(by rw [c6,<- q])⟩)
 .refine wv (h:=?_);have y:wQ g m.i d=a:=by rw [q,(aD:k=g.i.length)];rfl
  exact z _ _ (iv y)
theorem Au (l g:Graph)(keep m:Part)(c:m.h.length<=1000)(b:m.i.length<=1000):Pua 246 [.agg (gluC l g keep m)] (.tup [.list ((oD m.h keep.h).map cPr),.list ((oD m.i keep.i).map cPr)]):=by
 refine Tz.p0 func246 rfl λQ a _=>?_;have Y:=@gluC.eq_1;refine wv (h:=aH (yP m.h keep.h c) wl ?_);refine wv (h:=aH (yP m.i keep.i b) wl ?_);exact wv (h:=a _ _ wy)
theorem uD {a b:Graph}{m:Part}(h:eR a b m=0):(∀ x∈m.h,0<=x/\x<b.h.length)/\∀ x∈m.i,0<=x/\x<b.i.length:=by
 obtain ⟨_,_,j,g⟩:=kS h;have d:eR a b m=(if bW (lT a b m) 0 a.h.length≠0 then bW (lT a b m) 0 a.h.length else bW (mapEE a b m) 0 a.i.length):=by
  obtain ⟨f,e,_,_⟩:=kS h;unfold eR;rw [if_neg (iw f),if_neg (iw e),if_neg aD]
 rw [d] at h;split at h
 .rename_i h5;exact absurd h h5
 .rename_i h5;constructor
  .intro x hx;obtain ⟨i,c,rfl⟩:=aO hx;have:=eU _ _ (aD:bW (lT a b m) 0 a.h.length=0) i aD aD;unfold lT at this;grind
  .intro x hx;obtain ⟨i,c,rfl⟩:=aO hx;have:=eU _ _ h i aD aD;unfold mapEE at this;grind
theorem LM (l g:Graph)(keep m:Part)(s:keep.h.length<=1000000)(i:m.h.length<=1000)(f:m.i.length<=1000)(o:g.h.length<=1000000)(k:g.i.length<=1000000):Pua 155 [l.d,g.d,keep.d,m.d] (.tup [(u9 l g keep m).d,dI (oZ l g keep m)]):=by
 have v:=Em (keep:=keep.h) i;have u:=Em (keep:=keep.i) f;refine Tz.pK ⟨λt=>t==8||t==10,λ_=>[]⟩ func155 rfl (λQ n=>?_);have Y:=trivial;refine wv (h:=aB ((by have:=FI l g keep m s;simp only [gluC] at this;exact this)) wl ?_);refine dR (λe=>?_) λe=>?_
 .have b:oZ l g keep m=compG l g keep m:=if_pos e;have c:u9 l g keep m=⟨[],[]⟩:=if_neg (by rw [b];exact e);exact wv (h:=n _ _ (iu b c))
 .have b:oZ l g keep m=if 0<(oD m.h keep.h).length+(oD m.i keep.i).length then 15 else if 0<(wQ g m.i (iC m.h keep.h)).length then 14 else 0:=if_neg (by rw [e];simp)
  have j:(∀ x∈m.h,0<=x/\x<g.h.length)/\∀ x∈m.i,0<=x/\x<g.i.length:=uD (a:=l) (by unfold compG at e;by_cases p:eR l g m=0;exact p;rw [if_pos p] at e;exact e);refine wv (h:=aB ((by have:=Au l g keep m i f;simp only [gluC] at this;exact this)) wl ?_);refine eP (λr=>?_) λr=>?_
  .rw [if_pos aD] at b;have c:u9 l g keep m=⟨[],[]⟩:=if_neg (by rw [b];simp);exact wv (h:=n _ _ (iu b c))
  .rw [if_neg (by first|omega|simp [r])] at b;refine wo (h:=aB ((by have:=BZ l g keep m aD k;simp only [gluC] at this;exact this)) wl ?_);refine eP (λq=>?_) λq=>?_
   .rw [if_pos aD] at b;have c:u9 l g keep m=⟨[],[]⟩:=if_neg (by rw [b];simp);exact wv (h:=n _ _ (iu b c))
   .rw [if_neg (by first|omega|simp [q])] at b;have c:u9 l g keep m=⟨bH (iC m.h keep.h) g.h.length,bH (iC m.i keep.i) g.i.length⟩:=if_pos b;refine wo (h:=aH (Af g.h.length o m.h keep.h aD j.1) wl ?_);refine wo (h:=aH (Af g.i.length k m.i keep.i aD j.2) wl ?_);exact wo (h:=n _ _ (iu b c))
def kY (s:ByteArray):Bool:=decide (40<(s.size:Int))
def wU (x:Attr):Bool:=kY x.name||decide (25<(x.af.length:Int))||x.af.any kY
def sJ (n:NodeTy):Bool:=kY n.name||n.r.any wU
def BO (x:EdgeTy):Bool:=kY x.name
def jS (l:List NodeTy):Nat:=(l.map λn=>n.r.length).sum
def yH (t:Types):Bool:=decide ((t.h.length:Int)<=20)&&decide ((t.i.length:Int)<=30)&&decide (jS t.h<=30)&&!(t.h.any sJ)&&!(t.i.any BO)
@[go_sem,simp] theorem aaY:jS []=0:=rfl
theorem O0 (l:List NodeTy){i:Nat}(h:i<l.length):jS (l.take (i+1))=jS (l.take i)+l[i].r.length:=by
 unfold jS;rw [List.take_succ_eq_append_getElem h,List.map_append,List.sum_append];simp
theorem TZ (l:List NodeTy)(i:Nat):jS (l.take i)≤jS l:=by
 have:jS l=jS (l.take i)+jS (l.drop i):=by
  unfold jS;rw [← List.sum_append,← List.map_append,List.take_append_drop]
 omega
theorem WN {l:List NodeTy}{n:NodeTy}(h:n∈l):n.r.length<=jS l:=by
 induction l with
 | nil=>cases h
 | cons a l ih =>
  have e:jS (a :: l)=a.r.length+jS l:=by simp [jS]
  grind
theorem HO {t:Types}(h:yH t=true):t.ok:=by
 simp [yH] at h;obtain ⟨⟨⟨⟨k,j⟩,i⟩,f⟩,e⟩:=h;refine ⟨λn c=>?_,λx b=>⟨?_⟩,aD,aD⟩
 .have hl:=WN c;have:=f n c;simp [sJ,kY] at this;refine ⟨aD,λx b=>?_,aD⟩;have d:=this.2 x b;simp [wU,kY] at d;refine ⟨aD,λs g=>?_,aD⟩;grind
 .have:=e x b;simp [BO,kY] at this;omega
theorem Mq (t:Types)(R:∀ n∈t.h,n.r.length<=1000000000000000):Pua 26 [t.d] (.bool (yH t)):=by
 refine Tz.pK ⟨λt=>t==6,λ_=>[]⟩ func26 rfl (λQ u=>?_);have Y:=trivial;refine eP (λW=>?_) λW=>?_
 .refine wv (h:=?_);have s:yH t=false:=by simp [yH];omega
  exact u _ _ (iq s)
 .refine wv (h:=bA (λi e H=>(e 1=.adr t.c/\e 3=dI (jS (t.h.take i))/\e 4=dI i)/\(i<=t.h.length)/\(jS (t.h.take i)<=30)/\((t.h.take i).any sJ=false)) (λi=>t.h.length - i) 0 ⟨wg,wi,(by simp [jS]),(by rfl)⟩ λI0 J i e H D=>?_);obtain ⟨E0,hi,S,P⟩:=D;have Y:=wa Y E0;refine eP (λp=>?_) λp=>?_
  .have hst:=O0 t.h p;have T:=TZ t.h (i+1);have hn:=R _ (aC p);have Y:=xa1 Y p hst;refine eP (λh8=>?_) λh8=>?_
   .refine wv (h:=?_);have s:yH t=false:=by
     rcases h8 with h8|h8
     .simp [yH];omega
     .have:t.h.any sJ=true:=bF.2 ⟨_,aC p,by simp [sJ,kY];omega⟩;simp [yH,this]
    exact u _ _ (iq s)
   .have U:kY t.h[i].name=false:=by simp [kY];omega
    refine wv (h:=bA (λk e H=>(e 1=.adr t.c/\e 3=dI (jS (t.h.take (i+1)))/\e 4=dI i/\e 5=dI k)/\(k<=t.h[i].r.length)/\((t.h[i].r.take k).any wU=false)) (λk=>t.h[i].r.length - k) 0 ⟨wg,wi,(by rfl)⟩ λI2 I k e H C=>?_);obtain ⟨E2,hk,s⟩:=C;have Y:=wa Y E2;refine eP (λb=>?_) λb=>?_
    .have Y:=wa Y b;refine eP (λM=>?_) λM=>?_
     .refine wv (h:=?_);have f:wU t.h[i].r[k]=true:=by simp [wU,kY];omega
      have g:t.h.any sJ=true:=bF.2 ⟨_,aC p,by unfold sJ;rw [c8];right;exact bF.2 ⟨_,aC b,f⟩⟩;have a:yH t=false:=by simp [yH,g]
      exact u _ _ (iq a)
     .have V:kY t.h[i].r[k].name=false:=by simp [kY];omega
      refine wv (h:=bA (λm e H=>∃ j:Nat,(e 1=.adr t.c/\e 3=dI (jS (t.h.take (i+1)))/\e 4=dI i/\e 5=dI k/\e 6=.ptr j 1 0 0/\e 7=dI m)/\(H.get j=some ⟨88,4,[t.h[i].r[k].c],false⟩)/\(j<H.next)/\(m<=t.h[i].r[k].af.length)/\((t.h[i].r[k].af.take m).any kY=false)) (λm=>t.h[i].r[k].af.length - m) 0 ⟨H.next,wg,wn,wn,wi,(by rfl)⟩ λI4 G m e H B=>?_);obtain ⟨j,E4,w,v,hm,O⟩:=B;have Y:=xa2 Y E4 w (bS v);refine eP (λo=>?_) λo=>?_
      .have Y:=wa Y o;refine eP (λL=>?_) λL=>?_
       .refine wv (h:=?_);have f:wU t.h[i].r[k]=true:=by unfold wU;rw [c8];right;exact bF.2 ⟨_,aC o,by simp [kY];omega⟩
        have g:t.h.any sJ=true:=bF.2 ⟨_,aC p,by unfold sJ;rw [c8];right;exact bF.2 ⟨_,aC b,f⟩⟩;have a:yH t=false:=by simp [yH,g]
        exact u _ _ (iq a)
       .exact wo (h:=wx G (m+1) ⟨j,wg,wn,wn,wj,(by rw [eI _ _ _ o,O];simp [kY];omega)⟩)
      .have hZ:=pO O o;exact wo (h:=wx I (k+1) ⟨wg,wj,(by rw [eI _ _ _ b,s];simp [wU,V,hZ];omega)⟩)
    .have hA:=pO s b;exact wo (h:=wx J (i+1) ⟨wg,wj,aD,(by rw [eI _ _ _ p,P];simp [sJ,U,hA])⟩)
  .have E:=pO P p;rw [aG aD] at S;refine wv (h:=bA (λq e H=>(e 1=.adr t.c/\e 8=dI q)/\(q<=t.i.length)/\((t.i.take q).any BO=false)) (λq=>t.i.length - q) 0 ⟨wg,wi,(by rfl)⟩ λI6 F q e H A=>?_);obtain ⟨Z,hj,N⟩:=A;have Y:=wa Y Z;refine eP (λl=>?_) λl=>?_
   .have Y:=wa Y l;refine eP (λK=>?_) λK=>?_
    .refine wv (h:=?_);have g:t.i.any BO=true:=bF.2 ⟨_,aC l,by simp [BO,kY];omega⟩;have a:yH t=false:=by simp [yH,g]
     exact u _ _ (iq a)
    .exact wo (h:=wx F (q+1) ⟨wg,wj,(by rw [eI _ _ _ l,N];simp [BO,kY];omega)⟩)
   .have hEe:=pO N l;refine wv (h:=?_);have a:yH t=true:=by simp only [yH,E,hEe];simp;omega
    exact u _ _ (iq a)
end Go.Abs
end

/- The finder of the program: find, edges. · The finder of the  -/
import Derived.Test.YtmaibfgcngmjhaaGreatZeAG
import Derived.Test.YtmaibfgcngmjhaaGreatZeAA
import Derived.Test.YtmaibfgcngmjhaaGreatZeAR
import Derived.Test.YtmaibfgcngmjhaaGreatZeAQ
import Derived.RangeFuncBox
import Derived.RangeFuncLeaves
import Derived.Shelf.Abstract
import Derived.WalkKit
import Derived.OwnWalkIn
import Derived.TacticsInMore
import Derived.LoopNIn
import Derived.LoopIn
import Derived.Maps.AppendAt
import Derived.Shelf.Spec.SlicesInsert
import Derived.Lib.AppendZerosOnto
import Derived.Shelf.Bits.Mul64
import Derived.Deep.OwnRows
import Derived.Laws.NewBlocks
import Derived.Laws.CopyOwn
set_option linter.unusedVariables false
set_option linter.unusedSimpArgs false
section
set_option maxRecDepth 100000
set_option maxHeartbeats 4000000
open Go Go.Proofs Tryz
namespace Go.Abs
theorem ah9 (a k:Nat):a+(k+1) - (a+1)=k+1 - 1:=bL
theorem ah8 (a k:Nat):a+(k+1) - (a+1)=k:=bL
theorem ah7 (a k:Nat):a+(k+1) - a=k+1:=bL
theorem Nd (S:Srch)(hG:G17 S.t S.p S.g)(hv:(cW S.t).2=0)(N:Nat)(hN:N<=5001)(A pe:D)(b4:GivD A S.pn S.p.i.length)(W:GivD pe S.pe S.p.j.length)(f o:Nat)(m:Nat)(ih:∀ k,k<m->XM S N A pe f o k)(ns es:Xa0)(i:List Part)(a b:Nat)(G:AHeap)(Q:D->AHeap->Prop)(hm:(S.p.i.length - ns.length)+(S.p.j.length - es.length)=m)(f3:ns.length<=S.p.i.length)(e8:es.length<=S.p.j.length)(f6:ns.length<S.p.i.length->es=[])(hF:FdS f a b o S N A pe ns es i G)
  (hQ:∀ a' b' H',FdS f a' b' o S N A pe ns es (Mm S N ns es i) H'->Q (.tup []) H') (y:¬ ns.length<S.p.i.length) (c5:es.length<S.p.j.length) :
  ACalls prog 360 [.ptr f 1 0 0] G Q:=by
 have f5:=bW hG.gp;have f4:=bW hG.gg;have b9:∀ x∈S.p.j,(0<=x.from_/\x.from_<S.p.i.length)/\(0<=x.L/\x.L<S.p.i.length):=λx hx=>((eI hG.gp).2 x hx).2;obtain ⟨gf,ga,gb,go,a4,⟨lf,la,lb,lo⟩,⟨d1,d2,d3⟩,⟨d4,d5⟩,d6⟩:=hF;have ff:=bU lf;have fa:=bU la;have fb:=bU lb;have fo:=bU lo;have u:=b4.1;have B:=W.1;have b0:∀ H:AHeap,fM H A=A:=λH=>x8 u;have V:∀ H:AHeap,fM H pe=pe:=λH=>x8 B;refine (Tz.cK ⟨λ_=>false,λr=>match r with|0=>[(2,16),(3,16),(4,16)]|_=>[]⟩ func360 rfl ?_);have e6:=xa4 (b8 (bL:o≠b)) (b8 (bL:o≠a)) (b8 (bL:o≠f)) (b8 (bL:b≠a)) (b8 (bL:b≠f)) (b8 (bL:a≠f));have Y:=xa4 gf ga gb go ff (xb0 fa fb fo @Part.c.eq_1 @Srch.aq.eq_1 u B b0 V y c5 e6);refine jH (λh1=>?_) λh1=>?_
 .have hX:Mm S N ns es i=i:=Jw S _ _ bL;refine wv (h:=?_);exact hQ a b _ (by rw [hX];exact ⟨gf,ga,gb,go,a4,⟨by first|exact lf|(simp;omega),by first|exact la|(simp;omega),by first|exact lb|(simp;omega),by first|exact lo|(simp;omega)⟩,⟨d1,d2,d3⟩,⟨d4,d5⟩,d6⟩)
 .have hnf:¬ N<=i.length:=bL;obtain ⟨w,a5⟩:∃ w,S.p.j.length - es.length=w+1:=⟨S.p.j.length - es.length - 1,bL⟩;have Z:m=w+1:=by rw [<- hm,Nat.sub_eq_zero_of_le (Nat.not_lt.1 y),eQ,a5]
  have J:S.p.j.length=es.length+(w+1):=bL;clear hm a5;have C:es.length<S.p.j.length:=bL;have a6:=b9 _ (aC C);have c4:S.p.j[es.length].from_.toNat<ns.length:=bL;have c1:S.p.j[es.length].L.toNat<ns.length:=bL;refine wp (h:=bA (λj e H=>∃ s:Nat,∃ q:Nat,∃ l:List Part,(e 0=.ptr f 1 0 0/\e 6=dI es.length/\e 162=.list (S.g.j.map Edge.c)/\e 163=dI S.g.j.length/\e 164=dI j)/\(H.get f=some ⟨379,12,[S.aq N A pe (.own s ns.length) (.own q es.length) (.own o l.length)],false⟩)/\(f<H.next)/\(H.get s=some ⟨3,1,ns.map cI,false⟩)/\(s<H.next)/\(H.get q=some ⟨3,1,es.map cI,false⟩)/\(q<H.next)/\(H.get o=some ⟨55,2,l.map Part.c,false⟩)/\(o<H.next)/\(f≠s)/\(f≠q)/\(s≠q)/\(s≠o)/\(q≠o)/\(j<=S.g.j.length)/\(l.length<=N)/\(l=(List.range j).foldl (λl k=>if TB S ns es k=true then Kl S N ns w (es++[(k:Int)]) l else l) i)) (λj=>S.g.j.length - j) 0 ⟨a,b,i,wg,wn,wn,wn,wn,wn,wn,wn,wn,wi,wi,wi,wi,wi,wi,(by exact a4),(by rfl)⟩ λI3 a7 j e H c0=>?_);obtain ⟨s,q,l,E3,a9,T,P,F,O,E,a8,R,e1,e2,e3,e4,e5,hj,n,I⟩:=c0;have e0:=xa4 (b8 (bL:o≠q)) (b8 (bL:o≠s)) (b8 (bL:o≠f)) (b8 (bL:q≠s)) (b8 (bL:q≠f)) (b8 (bL:s≠f));have Y:=xa9 Y E3 a9 (bU T) P (bU F) O (bU E) a8 (bU R) e0;refine dD (λM=>?_) λM=>?_
  .have hEj:TB S ns es j=(G7 S ns es.length j&&!(S.inj&&mem es j)):=by
    simp only [TB,G7];cases Bq S.pe es.length j<;>cases Bn S ns es.length j<;>cases (S.inj&&mem es j)<;>rfl
   have Y:=wa Y M;refine wp (h:=GH (F9 S N A pe (dLI es) (.list (l.map Part.c)) u (by simp [D.U,go_sem]) (by simp [D.U,yJ]) ns es.length j C M W a6.1.1 c4 a6.2.1 c1) wrq wl rfl ?_);refine wp (h:=NU (λhg=>gX es j) wr (λhg=>wl) (λhg=> rfl) ?_);refine jH (λz=>?_) λz=>?_
   .have hE:TB S ns es j=false:=by
     rw [hEj];rcases z with U|⟨U,k2⟩
     .rw [U];rfl
     .rw [U,k2];simp
    obtain ⟨v,d⟩:∃ x,x=l:=⟨_,rfl⟩;obtain ⟨a2,L⟩:∃ x,x=s:=⟨_,rfl⟩;obtain ⟨b2,K⟩:∃ x,x=q:=⟨_,rfl⟩;have Y:=xa2 Y d L K;exact wp (h:=wx a7 (j+1) ⟨a2,b2,v,wg,wn,wn,wn,wn,wn,wn,wn,wn,wj,wj,wj,wj,wj,wj,(by rw [d];first|exact n|exact EY _ _ _ _ n),(by rw [eP,<- I,d];first|rw [if_pos hE]|rw [if_neg (by rw [hE];simp)])⟩)
   .have hE:TB S ns es j=true:=by
     obtain ⟨U,k2⟩:=z;have c2:(S.inj&&mem es (j:Int))=false:=by cases hI:S.inj;rfl;simp [k2 hI]
     rw [hEj,U,c2];rfl
    have a0:(S.p.i.length - ns.length)+(S.p.j.length - (es++[(j:Int)]).length)=m - 1:=by
     rw [Nat.sub_eq_zero_of_le (Nat.not_lt.1 y),aO,AJ,eQ,J,Z];exact ah9 _ _
    have X:m - 1<m:=by rw [Z];exact Nat.lt_succ_self w
    obtain ⟨m',b5⟩:∃ x,x=m - 1:=⟨_,rfl⟩;rw [<- b5] at a0 X;obtain ⟨v,d⟩:∃ x,x=Kl S N ns w (es++[(j:Int)]) l:=⟨_,rfl⟩;have c3:Mm S N ns (es++[(j:Int)]) l=v:=by
     have b6:S.p.j.length - (es++[(j:Int)]).length=w:=by
      rw [aO,AJ,J];exact ah8 _ _
     rw [d];unfold Mm;rw [if_neg (bL:¬ ns.length<S.p.i.length),b6]
    have Y:=xa1 Y z c3;refine wp (h:=?_);unfold dQ;refine ih m' X ns (es++[(j:Int)]) l s q _ _ a0 bL et (λh=>absurd h bL) ⟨by simp [go_sem,Y],by simp [go_sem,Y],by simp [go_sem,Y],by simp [go_sem,Y],n,⟨by simp [go_sem];omega,by simp [go_sem];omega,by simp [go_sem];omega,by simp [go_sem];omega⟩,⟨e1,e2,d3⟩,⟨e3,e4⟩,e5⟩ (λa3 b3 H3 c7=>?_);obtain ⟨c9,d7,d0,c8,e7,⟨f0,f2,f1,e9⟩,⟨x1,x2,x3⟩,⟨x4,x5⟩,x6⟩:=c7;have d8:=xa2 (bU (bL:f<H3.next)) (bU (bL:a3<H3.next)) (bU (bL:b3<H3.next)) (bU (bL:o<H3.next));have d9:=xa4 (b8 (bL:o≠b3)) (b8 (bL:o≠a3)) (b8 (bL:o≠f)) (b8 (bL:b3≠a3)) (b8 (bL:b3≠f)) (b8 (bL:a3≠f));obtain ⟨a2,L⟩:∃ x,x=a3:=⟨_,rfl⟩;obtain ⟨b2,K⟩:∃ x,x=H3.next:=⟨_,rfl⟩;have Y:=xa7 Y c9 d7 d0 c8 d8 d9 L K;exact wp (h:=IT (Ghosts.trunc (.refl _) f 0 10 b3 es.length _ _ _ (by simp [go_sem,Y];rfl) rfl rfl (by simp [go_sem,Y];rfl) cl rfl bL) (j+1) bL ((a7 _ _ _).2 ⟨a2,b2,v,wg,wn,wn,wn,wn,wn,wn,wn,wn,wj,wj,wj,wj,wj,wj,(by rw [d];first|exact n|exact EY _ _ _ _ n),(by rw [eP,<- I,d];first|rw [if_pos hE]|rw [if_neg (by rw [hE];simp)])⟩))
  .have hJ:j=S.g.j.length:=bL;have b7:S.p.j.length - es.length=w+1:=by
    rw [J];exact ah7 _ _
   have c6:Mm S N ns es i=l:=by unfold Mm;rw [if_neg y,b7];simp only [Kl];rw [if_neg hnf,I,hJ]
   refine wv (h:=?_);exact hQ s q _ (by rw [c6];exact ⟨by assumption,by assumption,by assumption,by assumption,n,⟨by assumption,by assumption,by assumption,by assumption⟩,⟨e1,e2,d3⟩,⟨e3,e4⟩,e5⟩)
theorem Nc (S:Srch)(A:G17 S.t S.p S.g)(hv:(cW S.t).2=0)(N:Nat)(hN:N<=5001)(j l:D)(s:GivD j S.pn S.p.i.length)(u:GivD l S.pe S.p.j.length)(f o:Nat)(m:Nat)(ih:∀ k,k<m->XM S N j l f o k)(ns es:Xa0)(d:List Part)(a b:Nat)(G:AHeap)(Q:D->AHeap->Prop)(hm:(S.p.i.length - ns.length)+(S.p.j.length - es.length)=m)(a0:ns.length<=S.p.i.length)(J:es.length<=S.p.j.length)(a4:ns.length<S.p.i.length->es=[])(hF:FdS f a b o S N j l ns es d G)
  (K:∀ a' b' H',FdS f a' b' o S N j l ns es (Mm S N ns es d) H'->Q (.tup []) H') (y:¬ ns.length<S.p.i.length) (w:¬ es.length<S.p.j.length) :
  ACalls prog 360 [.ptr f 1 0 0] G Q:=by
 have a2:=bW A.gp;have a1:=bW A.gg;have a3:∀ x∈S.p.j,(0<=x.from_/\x.from_<S.p.i.length)/\(0<=x.L/\x.L<S.p.i.length):=λx Z=>((eI A.gp).2 x Z).2;obtain ⟨M,P,O,L,v,⟨E,I,F,C⟩,⟨X,W,V⟩,⟨U,T⟩,R⟩:=hF;have ff:=bU E;have fa:=bU I;have fb:=bU F;have fo:=bU C;have e:=s.1;have i:=u.1;have q:∀ H:AHeap,fM H j=j:=λH=>x8 e;have n:∀ H:AHeap,fM H l=l:=λH=>x8 i;refine (Tz.cK ⟨λ_=>false,λr=>match r with|0=>[(2,16),(3,16),(4,16)]|_=>[]⟩ func360 rfl ?_);have B:=xa4 (b8 (bL:o≠b)) (b8 (bL:o≠a)) (b8 (bL:o≠f)) (b8 (bL:b≠a)) (b8 (bL:b≠f)) (b8 (bL:a≠f));have Y:=xa4 M P O L ff (xb0 fa fb fo @Part.c.eq_1 @Srch.aq.eq_1 e i q n y w B);refine jH (λh1=>?_) λh1=>?_
 .have z:Mm S N ns es d=d:=Jw S _ _ bL;refine wv (h:=?_);exact K a b _ (by rw [z];exact ⟨M,P,O,L,v,⟨by first|exact E|(simp;omega),by first|exact I|(simp;omega),by first|exact F|(simp;omega),by first|exact C|(simp;omega)⟩,⟨X,W,V⟩,⟨U,T⟩,R⟩)
 .have hnf:¬ N<=d.length:=bL;have z:Mm S N ns es d=d++[⟨ns,es⟩]:=by
   unfold Mm;rw [if_neg bL,(bL:S.p.j.length - es.length=0)];simp only [Kl];rw [if_neg hnf]
  refine wp (h:=?_);refine mO (jC ns bL) (by simp [go_sem,Y,dLI]) eh (Ju _) rfl eh ?_;refine wp (h:=?_);refine mO (jC es bL) (by simp [go_sem,Y,dLI]) eh (Ju _) rfl eh ?_;refine wp (h:=?_);exact K a b _ (by rw [z];exact ⟨by simp [go_sem,Y],by simp [go_sem,Y],by simp [go_sem,Y],by simp [go_sem,Y],by simp;omega,⟨by simp [go_sem];omega,by simp [go_sem];omega,by simp [go_sem];omega,by simp [go_sem];omega⟩,⟨X,W,V⟩,⟨U,T⟩,R⟩)
theorem OV (S:Srch)(v:G17 S.t S.p S.g)(q:(cW S.t).2=0)(N:Nat)(u:N<=5001)(l n:D)(e:GivD l S.pn S.p.i.length)(h:GivD n S.pe S.p.j.length)(f o:Nat) :
  ∀ (m:Nat) (ns es:Xa0) (c:List Part) (a b:Nat) (G:AHeap) (Q:D->AHeap->Prop),(S.p.i.length - ns.length)+(S.p.j.length - es.length)=m->ns.length<=S.p.i.length->es.length<=S.p.j.length->(ns.length<S.p.i.length->es=[])->FdS f a b o S N l n ns es c G ->
  (∀ a' b' H',FdS f a' b' o S N l n ns es (Mm S N ns es c) H'->Q (.tup []) H')->ACalls prog 360 [.ptr f 1 0 0] G Q:=by
 intro m;induction m using Nat.strongRecOn with
 | _ m ih =>
 intro ns es c a b G Q r i d j w s;by_cases k:ns.length<S.p.i.length
 .exact Nf S v q N u l n e h f o m ih ns es c a b G Q r i d j w s k
 .by_cases hc2:es.length<S.p.j.length
  .exact Nd S v q N u l n e h f o m ih ns es c a b G Q r i d j w s k hc2
  .exact Nc S v q N u l n e h f o m ih ns es c a b G Q r i d j w s k hc2
theorem Nb (S:Srch)(v:G17 S.t S.p S.g)(x:S.t.ok)(w:(cW S.t).2=0)(N:Nat)(B:N<=5001)(l m:D)(f:GivD l S.pn S.p.i.length)(j:GivD m S.pe S.p.j.length)(n:l.cell=true)(o:m.cell=true){L:List Part}(C:L=(Ad S).take N) :
  Pua 311 [S.t.d,S.p.d,S.g.d,.agg [l,m],.bool S.inj,dI N] (.list (L.map Part.c)):=by
 have q:Mm S N [] [] []=L:=by rw [Jv,RZ v.gp N _ _ _ bS,C];simp [Ad]
 have e:=f.1;have i:=j.1;have a:=n;have b:=o;unfold D.cell at a b;refine uT em (λQ A=>(Tz.cK ⟨λt=>t==22,λ_=>[]⟩ func311 rfl ?_));have Y:=xa3 e i @belowD.eq_1 a b;refine wv (h:=aJ (Du S.t x) wl ?_);refine wv (h:=?_);refine Aa (.step (.step (.step (.refl _) 8 0 9 3 1 _ _ eu rfl rfl rfl) 8 0 10 3 1 _ _ eu rfl rfl rfl) 8 0 11 55 2 _ _ eu rfl rfl rfl) ?_;simp [go_sem];unfold dQ;refine OV S v w N B l m f j 8 12 _ [] [] [] 10 11 _ _ rfl bS bS (λ_=>rfl) ⟨by simp [go_sem,Srch.aq,Graph.c,dLI,dI],by simp [go_sem],by simp [go_sem],by simp [go_sem],by simp,by simp [go_sem],by simp,by simp,by simp⟩ (λH G I k=>?_);rw [q] at k;obtain ⟨s,F,E,r,u,y,z⟩:=k;have Y:=xa2 Y s r @Srch.aq.eq_1;refine wv (h:=?_);exact A _ _ (by simp [go_sem,Y,lA,PV])
theorem If (t:Types)(z:t.ok)(y:(cW t).2=0)(p g:Graph)(A:G17 t p g)(o s:Xa0)(a:Bool)(n q:D)(i:GivD n o p.i.length)(k:GivD q s p.j.length)(l:n.cell=true)(m:q.cell=true){w:List Part × Int}(x:w=FB (Ad ⟨t,p,g,o,s,a⟩)) :
  Pua 250 [t.d,p.d,g.d,.agg [n,q],.bool a] (.tup [.list (w.1.map Part.c),dI w.2]):=by
 obtain ⟨L,v⟩:=cY ((Ad ⟨t,p,g,o,s,a⟩).take 5001);have r:w=if 5000<L.length then ([],3) else (L,0):=by rw [x];unfold FB;rw [<- v]
 have f:=i.1;have j:=k.1;have b:=l;have e:=m;unfold D.cell at b e;refine Tz.p0 func250 rfl λQ u _=>?_;have Y:=xa2 f j b e;refine wv (h:=aB (Nb ⟨t,p,g,o,s,a⟩ A z y 5001 bL n q i k l m v) wl ?_);refine dZ (λB=>?_) λB=>?_
 .rw [if_pos bL] at r;exact wv (h:=u _ _ (eD r))
 .rw [if_neg bL] at r;exact wv (h:=u _ _ (eD r))
theorem BU {t:Types}{p g:Graph}(h:eZ t p g=0):(cW t).2=0:=by
 unfold eZ at h;split at h
 .exact absurd h er
 .rename_i h1;simpa using h1
theorem Ry (t:Types)(i:t.ok)(p g:Graph)(a:Bool):Pua 186 [t.d,p.d,g.d,.bool a] (.tup [.list ((lD t p g a).1.map Part.c),dI (lD t p g a).2]):=by
 refine Tz.p0 func186 rfl λQ j Y=>?_;refine wv (h:=aB (tN t i p g) wl ?_);refine dD (λb=>?_) λb=>?_
 .have e:lD t p g a=([],eZ t p g):=by unfold lD;rw [if_pos (cG b)]
  exact wv (h:=j _ _ (eD e))
 .have hG:=oH (cG b);have k:=BU (cG b);obtain ⟨w,f⟩:=cY (FB (Ad ⟨t,p,g,List.replicate p.i.length (-1),List.replicate p.j.length (-1),a⟩));have e:lD t p g a=w:=by unfold lD;rw [if_neg (cG b),f]
  refine wv (h:=aB (If t i k p g hG _ _ a .nil .nil (GivD.nil _) (GivD.nil _) rfl rfl f) wl ?_);exact wv (h:=j _ _ (eD e))
theorem Kp (t:Types)(l:t.ok)(p g:Graph)(q:Part)(a:Bool):Pua 400 [t.d,p.d,g.d,q.d,.bool a] (.tup [.list ((o9 t p g q a).1.map Part.c),dI (o9 t p g q a).2]):=by
 refine Tz.p0 func400 rfl λQ i Y=>?_;refine wv (h:=aB (tN t l p g) wl ?_);refine dD (λe=>?_) λe=>?_
 .have b:o9 t p g q a=([],eZ t p g):=by unfold o9;rw [if_pos (cG e)]
  exact wv (h:=i _ _ (eD b))
 .have hG:=oH (cG e);have m:=BU (cG e);refine dZ (λn=>?_) λn=>?_
  .have b:o9 t p g q a=([],20):=by unfold o9;rw [if_neg (cG e),if_pos bL]
   exact wv (h:=i _ _ (eD b))
  .have hq:q.i.length=p.i.length/\q.j.length=p.j.length:=bL;refine wo (h:=aB (F7 q.i g.i.length) wl ?_);refine dZ (λj=>?_) λj=>?_
   .have b:o9 t p g q a=([],oY q.i g.i.length):=by unfold o9;rw [if_neg (cG e),if_neg bL,if_pos (cG j)]
    exact wv (h:=i _ _ (eD b))
   .have h7':oY q.i g.i.length=0:=by simpa using j
    refine wo (h:=aB (F7 q.j g.j.length) wl ?_);refine dZ (λf=>?_) λf=>?_
    .have b:o9 t p g q a=([],oY q.j g.j.length):=by unfold o9;rw [if_neg (cG e),if_neg bL,if_neg bL,if_pos (cG f)]
     exact wv (h:=i _ _ (eD b))
    .have h10':oY q.j g.j.length=0:=by simpa using f
     obtain ⟨w,k⟩:=cY (FB (Ad ⟨t,p,g,q.i,q.j,a⟩));have b:o9 t p g q a=w:=by unfold o9;rw [if_neg (cG e),if_neg bL,if_neg bL,if_neg bL,k]
     refine wv (h:=aB (If t l m p g hG q.i q.j a (dLI q.i) (dLI q.j) (hq.1 ▸ GivD.list q.i) (hq.2 ▸ GivD.list q.j) rfl rfl k) wl ?_);exact wv (h:=i _ _ (eD b))
theorem ZA (l:List Edge):∀ d∈(l.map Edge.c).flatten,d.flat=true:=by
 intro d a;rw [iI] at a;obtain ⟨c,b,a⟩:=a;rw [aS] at b;obtain ⟨x,_,rfl⟩:=b;simp only [Edge.c,aP,dU,or_false] at a;rcases a with rfl|rfl|rfl<;>rfl
theorem GZ (t:Types)(B:t.ok)(p g:Graph)(m:Part):Pua 189 [t.d,p.d,g.d,m.d] (.tup [(Cc t p g m).d,dI (fX t p g m false)]):=by
 refine Tz.pK ⟨λt=>t==8||t==12,λr=>match r with|11=>[(0,7),(1,7)]|_=>[]⟩ func189 rfl (λQ y=>?_);have Y:=trivial;refine wv (h:=aB (tN t B p g) wl ?_);refine dD (λf=>?_) λf=>?_
 .have b:fX t p g m false=eZ t p g:=by unfold fX;rw [if_pos (cG f)]
  have n:Cc t p g m=⟨[],[]⟩:=by unfold Cc;rw [if_neg (by rw [b];simpa using f)]
  exact wv (h:=y _ _ (fc n b))
 .have hG:=oH (cG f);have D:=BU (cG f);have G:=bW hG.gp;have F:=bW hG.gg;have b:fX t p g m false=jY t p g m false:=by unfold fX;rw [if_neg (cG f)]
  refine wv (h:=aB (Dt t B p g hG D m) wl ?_);refine dD (λA=>?_) λA=>?_
  .have n:Cc t p g m=⟨[],[]⟩:=by unfold Cc;rw [if_neg (by rw [b];simpa using A)]
   exact wv (h:=y _ _ (fc n b))
  .have hM:jY t p g m false=0:=by simpa using A
   obtain ⟨⟨J,I⟩,w,E⟩:=BP hM;have n:Cc t p g m=sR p g m:=by unfold Cc;rw [if_pos (by rw [b];exact hM)]
   refine wv (h:=?_);refine SV (JM p.j bL) eh eh (ZA _) ?_;refine wp (h:=o8 (Ghosts.step (Ghosts.refl _) 1 0 0 3 1 _ _ (rfl) rfl rfl rfl) (λi e H=>∃ a:Xa0,(e 4=.adr t.c/\e 5=.adr p.c/\e 6=.adr g.c/\e 7=.adr m.c/\e 8=.ptr 0 1 0 0/\e 12=.ptr 1 1 0 0/\e 37=dLI m.i/\e 38=dI m.i.length/\e 39=dI i)/\(H.get 0=some ⟨30,2,[[.nil,.nil]],false⟩)/\(0<H.next)/\(H.get 1=some ⟨30,2,[[.own 2 a.length,.list (p.j.map Edge.c)]],false⟩)/\(1<H.next)/\(H.get 2=some ⟨3,1,a.map cI,false⟩)/\(2<H.next)/\(i<=m.i.length)/\(a=(m.i.take i).map (gN g))) (λi=>m.i.length - i) 0 ⟨([]),wg,wn,wn,wn,wn,wn,wn,wi,(by rfl)⟩ λN z i e H x=>?_);obtain ⟨a,L,u,l,s,k,q,j,M,v⟩:=x;have Y:=xa6 Y L u (bU l) s (bU k) q (bU j);refine dD (λo=>?_) λo=>?_
   .have hmi:=w _ (aC o);have K:m.i[i].toNat<g.i.length:=bL;have C:a.length=i:=by rw [v];simp;omega
    have Y:=xa3 Y o (aA o) (aA K) @gN.eq_1;exact wp (h:=wx z (i+1) ⟨(a++[gN g m.i[i]]),wg,wn,wn,wn,wn,wn,wn,wj,(by rw [fN _ o,<- v])⟩)
   .have hX:a=m.i.map (gN g):=by rw [v,lK _ bL]
    exact wv (h:=y _ _ (by simp [go_sem,Y,n,b,hM,sR,Graph.d,Graph.c,hX,dLI]))
end Go.Abs
end
section
set_option maxRecDepth 100000
set_option maxHeartbeats 4000000
namespace Go.Abs
open Go Go.Proofs Go.RowKit Go.Shelf Tryz
attribute [local go_sem] Oper.semAt_some
theorem H9:(prog.info? 3).map (λi=>(i.zero,i.size,i.bytes))=some (some (.int .i64 0),1,8):=by kernel_rfl
theorem Rd (F:Fence)(n:Nat)(h7:F.fn 390)(hro:F.round=none)(hn:1<=n)(l n₀:Nat)(a ad:Addr)(cap:Nat)(zs:Xa0)(hreach:zs.length<=1000000)(hb:zs≠[]->ad.block<n₀)(J Jx:Xa0->World->Prop)
  (hY:∀ pre x W,J pre W->pre.length<zs.length->YieldAt F (n - 1) prog l #[.int .i64 x] W λe W' =>
   (e=.returned (.bool true)/\J (pre++[x]) W'/\Below n₀ W W')\/(e=.returned (.bool false)/\Jx (pre++[x]) W'))
  (W:World) (hBs:W.cell? a=some (.slice (some ad) zs.length cap)) (hc:∀ j x,zs[j]?=some x->W.cell? (ad.add j)=some (.int .i64 x)) (h0:J [] W) :
  CallsIn F n prog 390 #[.func (.yield l) #[] #[],.pointer (some a)] W λe W'=>(∃ v,e=.returned v) /\
   ((∃ ys,ys=zs/\J ys W')\/(∃ pre,True/\Jx pre W')):=by
 refine callsIn_of_wp func390 rfl h7 ?_ hro;simp only [ntmps390,pB,cD,i6,Nat.reduceAdd,Nat.reduceSub,Ck,Cj,HC,Dg,fT,eV];gi_wp2;gi_loopw [7] (λi wr=>∃ k:Nat,k<=zs.length/\i=.int .i64 k/\J (zs.take k) wr/\Below n₀ W wr)
  (λi _=>zs.length - (RowKit.intOf i).toNat)
 case atStart=>exact ⟨0,dN _,rfl,h0,Below.refl _ _⟩
 case round =>
  obtain ⟨k,hk,rfl,hJs,hnx⟩:=hrel;by_cases hlt:k<zs.length
  .have hcx':wr.cell? (ad.add k)=some (.int .i64 zs[k]):=(hnx.cell (p:=ad.add k) (by rw [jD];exact hb (λe=>by rw [e] at hlt;cases hlt))).trans (hc k _ (aA hlt));obtain ⟨fn,tmps,assign,body,hy,hR⟩:=hY _ zs[k] wr hJs et;gi_wp2;refine hR.mono ?_;rintro e W3 (⟨rfl,hJ3,hk3⟩|⟨rfl,hJx3⟩)
   .gi_wp2;go_roundw;case rel=>exact ⟨k+1,bL,by simp,by rw [aD hlt];exact hJ3,hnx.trans hk3⟩
    case measure=>simp [RowKit.intOf];omega
   .gi_wp2;refine bodyPost_ret (results_none rfl _ _ _) rfl ?_;exact ⟨⟨_,rfl⟩,.inr ⟨_,trivial,hJx3⟩⟩
  .obtain rfl:k=zs.length:=bL;gi_wp2;go_end0;exact ⟨⟨_,rfl⟩,.inl ⟨_,rfl,by rw [List.take_length] at hJs;exact hJs⟩⟩
theorem HK (F:Fence)(n:Nat)(g:F.fn 390)(b:F.round=none)(l:Nat)(a:Addr)(J:Xa0->World->Prop)(W:World)(f:W.cell? a=some (.slice none 0 0))(h:J [] W) :
  CallsIn F n prog 390 #[.func (.yield l) #[] #[],.pointer (some a)] W λe W'=>(∃ v,e=.returned v)/\J [] W':=by
 refine callsIn_of_wp func390 rfl g ?_ b;simp only [ntmps390,pB,cD,i6,Nat.reduceAdd,Nat.reduceSub,Ck,Cj,HC,Dg,fT,eV];gi_wp2;gi_loopw [7] (λi d=>i=.int .i64 0/\J [] d) (λ_ _=>0);case atStart=>exact ⟨rfl,h⟩
 case round =>
  obtain ⟨rfl,c⟩:=hrel;gi_wp2;go_end0;exact ⟨⟨_,rfl⟩,c⟩
def IntsB (n₀:Nat)(W:World)(sv:Value)(zs:Xa0):Prop :=
 (sv=.slice none 0 0/\zs=[])\/∃ ad cap,sv=.slice (some ad) zs.length cap/\(zs≠[]->ad.block<n₀)/\∀ j x,zs[j]?=some x->W.cell? (ad.add j)=some (.int .i64 x)
theorem IntsB.below {n₀:Nat}{A B:World}(h:Below n₀ A B){sv:Value}{zs:Xa0}:IntsB n₀ A sv zs->IntsB n₀ B sv zs
 | .inl e=>.inl e
 | .inr ⟨ad,cap,e,hb,hc⟩=>.inr ⟨ad,cap,e,hb,λj x hj=>(h.cell (p:=ad.add j) (by rw [jD];exact hb (λe=>by rw [e] at hj;cases hj))).trans (hc j x hj)⟩
theorem MV (F:Fence)(n:Nat)(h7:F.fn 390)(hro:F.round=none)(hn:1<=n)(a:Addr)(n₀:Nat)(sv:Value)(zs:Xa0)(hreach:zs.length<=1000000)(w:World)(hBs:a.block<w.heap.size)(hn₀:n₀<=w.heap.size)
  (hc:w.cell? a=some sv) (hI:IntsB n₀ w sv zs) :
  SeqStopsK F n prog 390 #[.pointer (some a)] (λx:Int=>#[Value.int .i64 x]) (Below n₀) (λys=>ys=zs) (λ_=>True) zs.length w:=λl J Jx W hW _ _ hY h0=>by
 have hc':=(hW.cell (p:=a) hBs).trans hc;rcases hI.below (hW.mono hn₀) with ⟨rfl,rfl⟩|⟨ad,cap,rfl,hb,hcs⟩
 .exact (HK F n h7 hro l a J W hc' h0).mono λe W' ⟨he,hj⟩=>⟨he,.inl ⟨_,rfl,hj⟩⟩
 .exact Rd F n h7 hro hn l n₀ a ad cap zs hreach hb J Jx hY W hc' hcs h0
theorem Oc (F:Fence)(n:Nat)(S:F.fn 398)(H:F.fn 390)(g:F.round=none)(Z:3<=n)(a:Addr)(t:Value)(zs:Xa0)(m:zs.length<=1000000)(w:World)
  (G:a.block<w.heap.size) (E:w.cell? a=some t) (Q:IntsB w.heap.size w t zs) :
  CallsIn F n prog 398 #[.slice none 0 0,.func (.func 390) #[] #[.pointer (some a)]] w λe W'=>∃ v,e=.returned v/\W'.ownsRow w.heap.size 3 1 v zs.length (zs.map (Value.int .i64))/\Below w.heap.size w W':=by
 have T:1<=n:=bL;obtain ⟨J,N,z,y,u⟩:=info_parts H9;refine callsIn_of_wp_marks func398 rfl S ?_ g;simp only [ntmps398,pB,cD,i6,Nat.reduceAdd,Nat.reduceSub,Ck,Cj,HC,Dg,fT,eV];gi_wp2;have U:=Boxed.new w 27 (.slice none 0 0);have j:Below w.heap.size w (w.alloc (.cells #[.slice none 0 0] 27)):=(Below.refl _ w).alloc (aT _) _;refine wpIn_rangeFunc_ownG g T (gf:=390) (lb:=#[.pointer (some a)]) rfl H (enters_of func390 en rfl)
  (MV F (n - 1) H g bL a w.heap.size t zs m _ et bS ((j.cell (p:=a) G).trans E) (Q.below j)) belowK_t (belowK_b bS) (Below.refl _ _) (λ_=>rfl)
  (λb W=>(∃ v,Boxed W w.heap.size 27 v/\W.ownsRow w.heap.size 3 1 v b.length (b.map (Value.int .i64))/\True)/\Below w.heap.size w W)
  (λ_ _ _=>False)
  (OwnFrom.and (Own.from (holdsRow_own w.heap.size w.heap.size 27 3 1 (λb=>b.length) (λb:Xa0=>b.map (Value.int .i64)) (λ_ _=>True)) _) (ownFrom_below (aT _) bS))
  (λ_ _ _ _ _ L _ _=>L)
  ⟨⟨_,U,World.ownsRow_nil _ _ _ _,trivial⟩,j⟩
  (λx=>{ tmps:=#[.slice none 0 0,.func (.func 390) #[] #[.pointer (some a)],.pointer (some ⟨w.heap.size,0,none⟩),undef,.slice none 0 0,.int .i64 x,.func (.func 390) #[] #[.pointer (some a)],.int .i64 x,undef,undef,undef,undef,undef],defers:=[] }) ?assign ?body ?done ?stop
 case assign =>
  intro l x W K q;gi_wp2;exact q
 case body =>
  rintro l b x W ⟨⟨v,s,d,_⟩,r⟩ M;have E:=s.cell
  gi_wp2_with (gi_at_builtin;refine wpListIn_append_own _ rfl _ _ 27 rfl w.heap.size 3 J (.int .i64 0) 1 8 underlying27 N z y u rfl (by decide) _ _ _ rfl (d.alloc _) ⟨W.heap.size,0,none⟩ 1 1 [.int .i64 x] rfl rfl (cell_one_new _ _ _) (by simp [Value.oneCell']) (by simp only [maxLen];omega) bL (by have:=r.size;simp;omega) ?_;intro Y X f i _;obtain ⟨g',I,rfl⟩:=ownsRow_succ f;obtain ⟨k,A,B,C,o⟩:=s.appended (by decide) d r.size (aT _) f i;have P:=k.cell;have O:=k.frozen)
  exact ⟨C.from _,o,⟨_,A,by simpa using B,trivial⟩,r.trans o⟩
 case done =>
  rintro D V W R rfl ⟨⟨v,s,d,_⟩,r⟩ q;have E:=s.cell;gi_wp2;refine ⟨by simp,.inl ⟨_,_,rfl,run_takeDeferred q,?_⟩⟩;exact ⟨_,results_tmp rfl _ _ _,v,rfl,ownsRow_putObj d _ q rfl,r.trans (belowK_b (w:=w) (aT _) W D _ _ (by simp at R;omega) q rfl rfl)⟩
 case stop =>
  rintro D c b W _ _ h _;exact h.elim
theorem SH (F:Fence)(n:Nat)(m:F.fn 389)(l:F.fn 398)(k:F.fn 390)(c:F.round=none)(p:4<=n)(a:Addr)(f:Value)(zs:Xa0)(d:zs.length<=1000000)(w:World)
  (g:a.block<w.heap.size) (h:w.cell? a=some f) (j:IntsB w.heap.size w f zs) :
  CallsIn F n prog 389 #[.func (.func 390) #[] #[.pointer (some a)]] w λe W'=>∃ v,e=.returned v/\W'.ownsRow w.heap.size 3 1 v zs.length (zs.map (Value.int .i64))/\Below w.heap.size w W':=by
 refine callsIn_of_wp func389 rfl m ?_ c;simp only [ntmps389,pB,cD,i6,Nat.reduceAdd,Nat.reduceSub,Ck,Cj,HC,Dg,fT,eV]
 gi_wp2_with (refine ⟨λ_=>by omega,(Oc F (n - 1) l k c bL a f zs d _ g h j).mono ?_⟩;rintro e o ⟨v,rfl,b,i⟩)
 go_ret;exact ⟨v,rfl,b,i⟩
theorem QB (l:Xa0)(y:l.length<=1000000):Own prog 389 [.fn 390 [.adr [dLI l]]] 3 1 (l.map cI):=by
 refine ⟨⟨Tryz.f389,func389,rfl,rfl⟩,λM w m V P=>?_⟩;obtain ⟨t,s⟩:=P;match m,t with
 | [v],_ =>
  have R:=s 0 v _ rfl rfl;obtain ⟨p,rfl,J⟩:∃ p,v=.func (.func 390) #[] #[p]/\RepV M g9 pT w p (.adr [dLI l]):=by
   cases R with
   | fn _ vs _ y s=>match vs,y with
    | [p],_=>exact ⟨p,rfl,s 0 p _ rfl rfl⟩
  obtain ⟨a,b,rfl,A,o⟩:∃ a b,p=.pointer (some a)/\(¬ M a.block/\w.cell? (a.add 0)=some b)/\RepV M g9 pT w b (dLI l):=by
   cases J with
   | adr a i _ y J E s=>match i,y with
    | [b],_=>exact ⟨a,b,rfl,E 0 b rfl,s 0 b _ rfl rfl⟩
  have z:=A.2;have f:w.cell? a=some b:=by rw [show a.add 0=a by unfold Addr.add;simp] at z;exact z
  have F:=World.block_lt_of_cell? w _ f;have Q:IntsB w.heap.size w b l:=by
   unfold dLI at o;rcases uX o with ⟨rfl,C⟩|⟨K,G,T,i,rfl,d,_,h,_,_,_⟩
   .exact .inl ⟨rfl,by simpa using C⟩
   .have hcl:∀ j x,l[j]?=some x->w.cell? (K.add j)=some (.int .i64 x):=λj x H=>by
     have g:=d.len;rw [BV,bR] at g;have N:j<l.length:=(aL.1 H).1;have n:i[j]?=some i[j]:=aA bL;have I:=d.Y j _ (D.int .i64 x) n (by rw [BV,aW,H];rfl);generalize U:i[j]=q at n I;cases I
     exact (h j _ n).2
    refine .inr ⟨K,G,by simp,λB=>?_,hcl⟩;have L:0<l.length:=Df.2 B;have:=World.block_lt_of_cell? w _ (hcl 0 _ (aA L));rwa [jD] at this
  refine (CallsIn.calls (SH Fence.wide 4 trivial trivial trivial rfl (aT _) a b l y w F f Q) (λk=>room_wide k)).mono λe S ⟨v,C,r,O⟩=>?_;exact ⟨v,_,C,by simpa using r,λu n=>by obtain ⟨x,_,rfl⟩:=aS.1 n;rfl,BM l,sD l,λc E=>by obtain ⟨x,_,rfl⟩:=aS.1 E;rfl,O⟩
theorem OD (l:Xa0):Pua 365 [dLI l] (.fn 390 [.adr [dLI l]]):=by
 refine Tz.p0 func365 rfl λQ a Y=>?_;exact wv (h:=a _ _ wy)
theorem Rv (l:Xa0)(a:l.length<=1000000):Own prog 364 [.fn 390 [.adr [dLI l]]] 3 1 ((pR l).map cI):=by
 refine Tz.oK ⟨λt=>t==5||t==3||t==2,λ_=>[]⟩ func364 rfl (λQ b=>?_);have Y:=trivial;refine wv (h:=mT (QB l a) wl ?_);refine wv (h:=?_);unfold dQ;refine H6 (ty:=3) (xs:=l) eh a ?_;refine wv (h:=?_);exact b _ _ _ (by simp [go_sem,Y,lV]) (by simp [go_sem,Y,lV])
end Go.Abs
end
section
set_option maxRecDepth 100000
set_option maxHeartbeats 4000000
open Go Go.Proofs Tryz
namespace Go.Abs
theorem Ds (l:Xa0)(f:l.length<=1000):Pua 315 [dLI l] (.bool (decide (¬ l.Nodup))):=by
 have a:=lV l;have b:decide (imagesN l<l.length)=decide (¬ l.Nodup):=by
  have c:=Gy l;have g:imagesN l<=l.length:=by unfold imagesN;have:=JH (pR l);omega
  rw [bB];simp only [decide_eq_true_eq];constructor
  .intro h hn;have:=c.2 hn;omega
  .intro hn;have:imagesN l≠l.length:=λd=>hn (c.1 d);omega
 unfold imagesN at b;refine Tz.p0 func315 rfl λQ e Y=>?_;refine wo (h:=aB (OD l) wl ?_);refine wo (h:=mT (Rv l bL) wl ?_);refine wo (h:=?_);unfold dQ;refine GE (ty:=3) (xs:=pR l) eh bL λk=>?_;exact wo (h:=e _ _ (eD b))
theorem R8 (t:Types)(p g:Graph)(m:Part)(a:Bool):jY t p g m a=if jY t p g m false≠0 then jY t p g m false else if a=true/\(¬ m.i.Nodup\/¬ m.j.Nodup) then 5 else 0:=by
 unfold jY;split
 .simp
 .split
  .simp_all
  .split
   .simp_all
   .simp
theorem zL (t:Types)(k:t.ok)(p g:Graph)(m:Part)(a:Bool):Pua 253 [t.d,p.d,g.d,m.d,.bool a] (dI (fX t p g m a)):=by
 refine Tz.p0 func253 rfl λQ e Y=>?_;refine wv (h:=aB (tN t k p g) wl ?_);refine dD (λc=>?_) λc=>?_
 .have b:fX t p g m a=eZ t p g:=by unfold fX;rw [if_pos (cG c)]
  exact wv (h:=e _ _ (eD b))
 .have hG:=oH (cG c);have l:=BU (cG c);have n:=bW hG.gp;have b:fX t p g m a=jY t p g m a:=by unfold fX;rw [if_neg (cG c)]
  rw [R8] at b;refine wv (h:=aB (Dt t k p g hG l m) wl ?_);refine dD (λf=>?_) λf=>?_
  .rw [if_pos (cG f)] at b;exact wv (h:=e _ _ (eD b))
  .rw [if_neg (cG f)] at b;have o:=(BP (show jY t p g m false=0 by simpa using f)).1;refine wo (h:=aN (λi=>Ds m.i bL) (λi=>wl) ?_);refine wo (h:=aN (λi=>Ds m.j bL) (λi=>wl) ?_);refine dZ (λj=>?_) λj=>?_
   .rw [if_pos (cG j)] at b;exact wv (h:=e _ _ (eD b))
   .rw [if_neg (cG j)] at b;exact wv (h:=e _ _ (eD b))
theorem Aq (p:Pattern)(h:Host)(m:Part)(N:SOk p h m):Pua 187 [p.d,h.d,m.d] (.tup [dLI (eY p h m []).1,dI (eY p h m []).2]):=by
 have hv:=N.vars;have h0:=OS (vs:=[]) hv.1 bS bS;rw [Hl] at h0;refine Tz.pK ⟨λt=>t==11||t==15,λr=>match r with|1=>[(2,3),(2,4),(0,5),(1,5),(2,5)]|_=>[]⟩ func187 rfl (λQ P=>?_);have Y:=xa5 @Pattern.d.eq_1 @Pattern.c.eq_1 @Host.d.eq_1 @Host.c.eq_1 @Part.d.eq_1 @Part.c.eq_1 @Term.c.eq_1;refine wv (h:=?_);repeat first|intro _|refine ⟨fY,?_⟩
 refine bA (λi e H=>∃ l:Xa0 × List Bool,(e 3=.adr p.c/\e 4=.adr h.c/\e 5=.adr m.c/\e 8=.own 2 p.vars.toNat/\e 9=.own 5 p.vars.toNat/\e 23=.list (p.q.map Slot.c)/\e 24=dI p.q.length/\e 25=dI i)/\(H.get 2=some ⟨3,1,l.1.map cI,false⟩)/\(2<H.next)/\(H.get 5=some ⟨4,1,l.2.map cB,false⟩)/\(5<H.next)/\(i<=p.q.length)/\(StOk p.vars.toNat l)/\(kB h m (M3 p []) (p.q.take i)=some l)) (λi=>p.q.length - i) 0 ⟨((List.replicate p.vars.toNat 0,List.replicate p.vars.toNat false)),wg,(by simp [go_sem,cI]),wn,(by simp [go_sem,cB]),wn,wi,(by exact h0),(by rw [Hl];rfl)⟩ λI0 C i e H a2=>?_;obtain ⟨l,E0,Z,T,W,R,hi,q,I⟩:=a2;have Y:=xa4 Y E0 Z (bU T) W (bU R);refine dD (λE=>?_) λE=>?_
 .obtain ⟨x,U⟩:=cY (p.q[i]);have A:x∈p.q:=U ▸ aC E;have hn:=N.node x A;have s:x.node.toNat<m.i.length:=bL;have hk:=N.bn _ (aC s);have w:(m.i[x.node.toNat]).toNat<h.values.length:=bL;have ha:=N.Q x A;rw [aA s,aF,aA w,aF] at ha;have B:x.Q.toNat<(h.values[(m.i[x.node.toNat]).toNat]).length:=bL;have hV:mN h m x=h.values[(m.i[x.node.toNat]).toNat][x.Q.toNat]:=by unfold mN;rw [aA s,aF,aA w,aF,aA B];rfl
  have hb:=N.bt A;have L:=N.E x A;have v:=q.l1;have J:=q.l2;have a5:=L.1;have a6:=L.2;have n:=v6 E I;rw [<- U] at n;obtain ⟨o,a⟩:∃ y,y=mY h m l x:=⟨_,rfl⟩;have j:StOk p.vars.toNat o:=a ▸ AU q hb L;rw [<- a] at n;have f:¬ 0<=x.E.var->o=l:=λhn=>by rw [a];unfold mY lZ;rw [if_neg (fg hn)]
  have F:0<=x.E.var->x.E.var.toNat<l.2.length:=λhn=>by omega
  obtain ⟨kb,V⟩:=cY (l.2[x.E.var.toNat]?.getD false);have K:0<=x.E.var\/(¬ 0<=x.E.var/\l.2[x.E.var.toNat]?=none)\/(¬ 0<=x.E.var/\l.2[x.E.var.toNat]?=some kb):=by
   by_cases G:0<=x.E.var
   .exact .inl G
   .right
    cases ho:l.2[x.E.var.toNat]? with
    | none=>exact .inl ⟨G,rfl⟩
    | some b=>rw [ho] at V;exact .inr ⟨G,by rw [V];rfl⟩
  rcases K with hc|hc|hc
  .have Y:=xa3 Y E (aA E) (Eq.symm U) (xb0 (aA s) (aA w) (aA B) (Eq.symm hV) @Slot.c.eq_1 @cL.eq_1 v J @lH @cB.eq_1 hc ((aA (F hc))));refine wv (h:=?_);repeat first|intro _|refine ⟨fY,?_⟩
   refine wq (λh7=>?_) λh7=>?_
   .have hF:lZ l x=true:=by simp only [lZ,aR,decide_eq_true_eq,b7];exact ⟨hc,by simpa [aA (F hc)] using h7⟩
    unfold mY at a;rw [if_pos hF] at a;have a0:x.E.var.toNat<l.1.length:=bL;have e1:o.1.map cI=(l.1.map cI).set x.E.var.toNat (cI (mN h m x - x.E.add)):=by rw [a,c8]
    have e2:o.2.map cB=(l.2.map cB).set x.E.var.toNat (cB true):=by rw [a,c8]
    have a4:D.T ((l.1.map cI).set x.E.var.toNat [D.int .i64 (mN h m x - x.E.add)])=true:=by have:=sD o.1;rw [e1] at this;exact this
    have Y:=xa5 Y e1 e2 @dLI.eq_1 @cI.eq_1 (aA a0) a4;refine wv (h:=?_);repeat first|intro _|refine ⟨fY,?_⟩
    refine eF (nA x.E o.1 (by rw [j.l1];exact L) j.aE) wr wl rfl ?_;refine wv (h:=?_);repeat first|intro _|refine ⟨fY,?_⟩
    refine wq (λg=>?_) λg=>?_
    .have hR:=eR (n.2 (by first|simpa using g|simpa [f hc.1] using g|simpa [a] using g));exact wv (h:=P _ _ (eD hR))
    .have hstep:=n.1 (by first|simpa using g|simpa [f hc.1] using g|simpa [a] using g);refine wv (h:=?_);repeat first|intro _|refine ⟨fY,?_⟩
     exact wx C (i+1) ⟨o,wg,cl,wn,cl,wn,wj,(by exact j),(by exact hstep)⟩
   .have hF:¬ lZ l x=true:=by simp only [lZ,aR,decide_eq_true_eq,b7];rintro ⟨_,hk⟩;simp [aA (F hc)] at hk;simp [hk] at h7
    unfold mY at a;rw [if_neg hF] at a;have Y:=wa Y a;refine wv (h:=eF (nA x.E o.1 (by rw [j.l1];exact L) j.aE) wr wl rfl ?_);refine dD (λg=>?_) λg=>?_
    .have hR:=eR (n.2 (by first|simpa using g|simpa [f hc.1] using g|simpa [a] using g));exact wv (h:=P _ _ (eD hR))
    .have hstep:=n.1 (by first|simpa using g|simpa [f hc.1] using g|simpa [a] using g);refine wv (h:=?_);repeat first|intro _|refine ⟨fY,?_⟩
     exact wx C (i+1) ⟨o,wg,cl,wn,cl,wn,wj,(by exact j),(by exact hstep)⟩
  .have Y:=xa4 Y E (aA E) (Eq.symm U) (aA s) (xb0 (aA w) (aA B) (Eq.symm hV) @Slot.c.eq_1 @cL.eq_1 v J @lH @cB.eq_1 hc.1 hc.2 (f hc.1));refine wv (h:=?_);repeat first|intro _|refine ⟨fY,?_⟩
   refine eF (nA x.E o.1 (by rw [j.l1];exact L) j.aE) wr wl rfl ?_;refine wv (h:=?_);repeat first|intro _|refine ⟨fY,?_⟩
   refine wq (λg=>?_) λg=>?_
   .have hR:=eR (n.2 (by first|simpa using g|simpa [f hc.1] using g|simpa [a] using g));exact wv (h:=P _ _ (eD hR))
   .have hstep:=n.1 (by first|simpa using g|simpa [f hc.1] using g|simpa [a] using g);refine wv (h:=?_);repeat first|intro _|refine ⟨fY,?_⟩
    exact wx C (i+1) ⟨o,wg,cl,wn,cl,wn,wj,(by exact j),(by exact hstep)⟩
  .have Y:=xa4 Y E (aA E) (Eq.symm U) (aA s) (xb0 (aA w) (aA B) (Eq.symm hV) @Slot.c.eq_1 @cL.eq_1 v J @lH @cB.eq_1 hc.1 hc.2 (f hc.1));refine wv (h:=?_);repeat first|intro _|refine ⟨fY,?_⟩
   refine eF (nA x.E o.1 (by rw [j.l1];exact L) j.aE) wr wl rfl ?_;refine wv (h:=?_);repeat first|intro _|refine ⟨fY,?_⟩
   refine wq (λg=>?_) λg=>?_
   .have hR:=eR (n.2 (by first|simpa using g|simpa [f hc.1] using g|simpa [a] using g));exact wv (h:=P _ _ (eD hR))
   .have hstep:=n.1 (by first|simpa using g|simpa [f hc.1] using g|simpa [a] using g);refine wv (h:=?_);repeat first|intro _|refine ⟨fY,?_⟩
    exact wx C (i+1) ⟨o,wg,cl,wn,cl,wn,wj,(by exact j),(by exact hstep)⟩
 .rw [aH bL] at I;have M:=qO I;have v:=q.l1;have Y:=wa Y v;refine wv (h:=?_);repeat first|intro _|refine ⟨fY,?_⟩
  refine bA (λk e H=>(e 3=.adr p.c/\e 4=.adr h.c/\e 5=.adr m.c/\e 8=.own 2 p.vars.toNat/\e 74=.list (p.R.map Test.c)/\e 75=dI p.R.length/\e 76=dI k)/\(H.get 2=some ⟨3,1,l.1.map cI,false⟩)/\(2<H.next)/\(k<=p.R.length)/\((p.R.take k).all (λx=>B9 x l.1)=true)) (λk=>p.R.length - k) 0 ⟨wg,wn,wn,wi,(by rfl)⟩ λI2 a3 k e H a1=>?_;obtain ⟨E2,X,S,hk,z⟩:=a1;have Y:=xa2 Y E2 X (bU S);refine dD (λu=>?_) λu=>?_
  .have Y:=xa2 Y u (aA u) @Test.c.eq_1;refine wv (h:=?_);repeat first|intro _|refine ⟨fY,?_⟩
   refine eF (y3 p.R[k] l.1 (by rw [q.l1];exact N.ck _ (aC u)) q.aE) wr wl rfl ?_;refine wv (h:=?_);repeat first|intro _|refine ⟨fY,?_⟩
   refine wq (λO=>?_) λO=>?_
   .have hR:eY p h m []=([],16):=by
     rw [M,if_neg];intro ha;rw [cF] at ha;have:=ha _ (aC u);simp [this] at O
    exact wv (h:=P _ _ (eD hR))
   .refine wv (h:=?_);repeat first|intro _|refine ⟨fY,?_⟩
    exact wx a3 (k+1) ⟨wg,wn,wn,wj,(by rw [aD u,pC,z];simp;simpa using O)⟩
  .rw [aH bL] at z;rw [if_pos z] at M;exact wv (h:=P _ _ (by simp [go_sem,Y,M,dLI]))
theorem Ar (t:Types)(b:t.ok)(p:Pattern)(h:Host):Pua 185 [t.d,p.d,h.d] (dI (sW t p h)):=by
 refine Tz.p0 func185 rfl λQ e _=>?_;have Y:=wa @Host.d.eq_1 @Host.c.eq_1;refine wv (h:=aB (pO t b p) wl ?_);refine dD (λa=>?_) λa=>?_
 .exact wv (h:=e _ _ (by simp [go_sem,sW,a]))
 .refine wv (h:=aB (rU t b h) wl ?_);exact wv (h:=e _ _ (by simp [go_sem,sW,a,dH]))
theorem As (t:Types)(i:t.ok)(p:Pattern)(h:Host)(m:Part):Pua 254 [t.d,p.d,h.d,m.d] (.tup [dLI (eJ t p h m).1,dI (eJ t p h m).2]):=by
 refine Tz.p0 func254 rfl λQ g _=>?_;have Y:=xa2 @Pattern.d.eq_1 @Pattern.c.eq_1 @Host.d.eq_1 @Host.c.eq_1;refine wv (h:=aB (Ar t i p h) wl ?_);refine dD (λa=>?_) λa=>?_
 .have e:eJ t p h m=([],sW t p h):=by
   unfold eJ sW;unfold sW at a;by_cases b:c7 t p=0
   .rw [if_neg bL] at a ⊢;rw [if_pos a,if_neg bL]
   .rw [if_pos b,if_pos b]
  exact wv (h:=g _ _ (eD e))
 .have hp0:c7 t p=0:=by
   unfold sW at a;refine bE λb=>?_;rw [if_pos b] at a;exact b a
  have f:dH t h=0:=by unfold sW at a;rw [if_neg bL] at a;exact a
  refine wv (h:=aB (zL t i p.o h.o m false) wl ?_);refine dD (λj=>?_) λj=>?_
  .have e:eJ t p h m=([],fX t p.o h.o m false):=by unfold eJ;rw [if_neg bL,if_neg bL,if_pos j]
   exact wv (h:=g _ _ (eD e))
  .have h5':fX t p.o h.o m false=0:=bL;have e:eJ t p h m=eY p h m []:=by unfold eJ;rw [if_neg bL,if_neg bL,if_neg bL]
   refine wv (h:=aB (Aq p h m (Yi (IP (.inr hp0)) (rW f) (uV (uD h5').2))) wl ?_);exact wv (h:=g _ _ (eD e))
theorem Ew (t:Types)(F:t.ok)(p:Pattern)(h:Host)(a:Bool):Pua 115 [t.d,p.d,h.d,.bool a] (.tup [.list ((eO t p h a).1.map Mat.c),dI (eO t p h a).2]):=by
 refine Tz.pK ⟨λt=>t==13||t==15,λ_=>[]⟩ func115 rfl (λQ D=>?_);have Y:=xa2 @Pattern.d.eq_1 @Pattern.c.eq_1 @Host.d.eq_1 @Host.c.eq_1;refine wv (h:=aB (Ar t F p h) wl ?_);refine dD (λf=>?_) λf=>?_
 .have hS:eO t p h a=([],sW t p h):=by
   unfold eO sW;unfold sW at f;by_cases r:c7 t p=0
   .rw [if_neg bL] at f ⊢;rw [if_pos f,if_neg bL]
   .rw [if_pos r,if_pos r]
  exact wv (h:=D _ _ (eD hS))
 .have hp0:c7 t p=0:=by
   unfold sW at f;refine bE λr=>?_;rw [if_pos r] at f;exact r f
  have C:dH t h=0:=by unfold sW at f;rw [if_neg bL] at f;exact f
  have l:∀ x∈(lD t p.o h.o a).1,MOk t p.o h.o x:=λx J=>MK J;refine wv (h:=aB (Ry t F p.o h.o a) wl ?_);refine dD (λI=>?_) λI=>?_
  .have hS:eO t p h a=([],(lD t p.o h.o a).2):=by unfold eO;rw [if_neg bL,if_neg bL,if_pos I]
   exact wv (h:=D _ _ (eD hS))
  .have hS:eO t p h a=(uJ p h [] (lD t p.o h.o a).1,0):=by unfold eO;rw [if_neg bL,if_neg bL,if_neg bL]
   obtain ⟨L,G⟩:=cY ((lD t p.o h.o a).1);have m:=J1 t p.o h.o a;rw [<- G] at hS l m;have E:=l;have Y:=wa Y (Eq.symm G);refine wp (h:=bA (λi e H=>∃ k:List Mat,(e 4=.adr t.c/\e 5=.adr p.c/\e 6=.adr h.c/\e 3=.bool a/\e 38=.list (L.map Part.c)/\e 39=dI L.length/\e 13=.own 0 k.length/\e 40=dI i)/\(H.get 0=some ⟨78,3,k.map Mat.c,false⟩)/\(0<H.next)/\(i<=L.length)/\(k=uJ p h [] (L.take i))/\(k.length<=i)/\(L.length<=5000)) (λi=>L.length - i) 0 ⟨([]),wg,wn,wn,wi,(by rfl),(by simp),(by exact m)⟩ λO u i e H B=>?_);obtain ⟨k,M,w,q,N,j,K,s⟩:=B;have Y:=xa2 Y M w (bU q);refine dD (λo=>?_) λo=>?_
   .obtain ⟨v,z⟩:=cY (eY p h L[i] []);obtain ⟨g,b⟩:∃ y,y=k++if v.2=0 then [(⟨L[i],v.1⟩:Mat)] else []:=⟨_,rfl⟩
    have Y:=xa2 Y o (aA o) @Part.c.eq_1;refine wp (h:=aB ((by have A:=Aq p h L[i] (Yi (IP (.inr hp0)) (rW C) (E _ (aC o)));rw [<- z] at A;unfold Pattern.d Pattern.c Host.d Host.c Part.d Part.c dLI dI at A;exact A)) wl ?_);refine jH (λn=>?_) λn=>?_
    .have hm3:g=k++[⟨L[i],v.1⟩]:=by rw [b,if_pos (cG n)]
     have Y:=xa1 Y hm3 @Mat.c.eq_1;exact wp (h:=wx u (i+1) ⟨g,wg,wn,wn,wj,(by rw [aD o,nX,<- j,<- z];exact b),(by rw [b];split<;>simp<;>omega),(by exact s)⟩)
    .have hm3:g=k:=by rw [b,if_neg (cG n),dG]
     have Y:=wa Y hm3;exact wp (h:=wx u (i+1) ⟨g,wg,wn,wn,wj,(by rw [aD o,nX,<- j,<- z];exact b),(by rw [b];split<;>simp<;>omega),(by exact s)⟩)
   .rw [aH bL] at j;exact wv (h:=D _ _ (by simp [go_sem,Y,hS,<- j]))
end Go.Abs
end
section
set_option maxRecDepth 100000
set_option maxHeartbeats 4000000
open Go Go.Proofs Go.RowKit Go.Shelf Go.Lib Tryz
namespace Go.Abs
theorem UF (x y:Nat)(j:x<18446744073709551616)(i:y<18446744073709551616)(w:World) :
  Calls prog 150 #[.int .u64 x,.int .u64 y] w λe w'=>e=.returned (.tuple #[.int .u64 ((x * y / 18446744073709551616:Nat):Int),.int .u64 ((x * y % 18446744073709551616:Nat):Int)])/\w'=w:=by
 obtain ⟨n,k,l,c⟩:=Lib.mul64_hi x y j i;have q:=Lib.half_mul_le (a:=x / 4294967296) (b:=y / 4294967296) bL bL;have p:=Lib.half_mul_le (a:=x / 4294967296) (b:=y % 4294967296) bL bL;have o:=Lib.half_mul_le (a:=x % 4294967296) (b:=y / 4294967296) bL bL;have h:x / 4294967296 * (y / 4294967296)<18446744073709551616:=bL;have g:x / 4294967296 * (y % 4294967296)<18446744073709551616:=bL;have f:x % 4294967296 * (y / 4294967296)<18446744073709551616:=bL;have d:x / 4294967296 * (y / 4294967296)+(x / 4294967296 * (y % 4294967296)+x % 4294967296 * (y % 4294967296) / 4294967296) / 4294967296<18446744073709551616:=bL;have m:x / 4294967296 * (y / 4294967296)+(x / 4294967296 * (y % 4294967296)+x % 4294967296 * (y % 4294967296) / 4294967296) / 4294967296+((x / 4294967296 * (y % 4294967296)+x % 4294967296 * (y % 4294967296) / 4294967296) % 4294967296+x % 4294967296 * (y / 4294967296)) / 4294967296<18446744073709551616:=bL
 go_enter func150,ntmps150
 go_wp2
 simp only [Mul64.maskN x j,Mul64.maskN y i,Mul64.divN,Mul64.mulN,Mul64.addN,Mul64.wrapN _ n,Mul64.wrapN _ g,Mul64.wrapN _ k,Mul64.maskN _ k,Mul64.wrapN _ f,Mul64.wrapN _ l,Mul64.wrapN _ h,Mul64.wrapN _ d,Mul64.wrapN _ m,Mul64.wrapM (x * y)];rw [c]
 go_ret2
 exact ⟨rfl,rfl⟩
theorem Yp (x y:Nat)(d:x<18446744073709551616)(c:y<18446744073709551616)(w:World) :
  Calls prog 79 #[.int .u64 x,.int .u64 y] w λe w'=>e=.returned (.tuple #[.int .u64 ((x * y / 18446744073709551616:Nat):Int),.int .u64 ((x * y % 18446744073709551616:Nat):Int)])/\w'=w:=by
 have a:=UF x y d c w;have b:∀ args w,(callFunc 150 args).run prog w=.ok (.enter 150 args) w:=enters_of func150 en rfl
 go_enter func79,ntmps79
 go_wp2_with (go_at_fn 150;refine a.mono ?_;rintro e w' ⟨rfl,f⟩;rw [f])
 go_ret2
 exact ⟨rfl,rfl⟩
def pS (v:Int)(n k:Nat):List Value:=List.replicate k (.int .i64 v)++List.replicate (n - k) (.int .i64 0)
theorem O8 {v:Int}{n k m:Nat}(h:k+m<=n):(pS v n k).take k++List.replicate m (.int .i64 v)++(pS v n k).drop (k+m)=pS v n (k+m):=by
 unfold pS;rw [List.take_left' bS,Ld,sH,cR bS,fT,List.drop_replicate,<- List.replicate_append_replicate];congr 2;omega
theorem Nn (v:Int)(n:Nat)(hn:n<=1000)(ad:Addr)(cap:Nat)(w:World)(hc:w.cell? ad=some (.int .i64 v)) :
  Calls prog 42 #[.slice (some ad) 1 cap,.int .i64 n] w λe w'=>∃ v',e=.returned v'/\w'.ownsRow w.heap.size 3 1 v' n (List.replicate n (.int .i64 v))/\Below w.heap.size w w':=by
 have hsz:(prog.info? 3).map (·.size)=some 1:=by kernel_rfl
 have cM:=λw=>Yp 1 n bL bL w;have e1:∀ args w,(callFunc 79 args).run prog w=.ok (.enter 79 args) w:=enters_of func79 en rfl;have hmk:=λw=>run_make_row' (P:=prog) 27 3 (.int .i64 0) 8 underlying27 H9 rfl .i64 .i64 n bL bL w;have hq1:(1 * n) / 18446744073709551616=0:=bL;have hq2:(1 * n) % 18446744073709551616=n:=bL;have hn0:¬ ((n:Int)<0):=bL;have hn1:¬ ((9223372036854775807:Int)<n):=bL;have cpy:∀ (k m:Nat) (W:World) (ty dl dc:Nat) (a:Addr) (sl sc:Nat),k+m<=n->m=Nat.min sl dl->W.heap[w.heap.size]?=some (.cells (pS v n k).toArray 3 (0,0))->(∀ (j:Nat) (u:Value),(List.replicate m (Value.int .i64 v))[j]?=some u->W.cell? (a.add j)=some u) ->
   (Builtin.copy_ #[27,27] ty #[.slice (some ⟨w.heap.size,k,none⟩) dl dc,.slice (some a) sl sc]).run prog W=.ok (goInt m) (W.setRow w.heap.size (pS v n (k+m)).toArray):=λk m W ty dl dc a sl sc hkm hm hb hs=>by
  rw [<- O8 hkm];have:=Ks (P:=prog) W 27 27 ty 3 1 w.heap.size k dl dc a sl sc m (pS v n k).toArray 3 (List.replicate m (.int .i64 v)) underlying27 hsz hb hm bS hs (by simp [pS];omega) (by simp [Value.oneCell']);simpa using this
 have h0:(w.alloc (.cells (madeCells #[.int .i64 0] n) 3)).heap[w.heap.size]?=some (.cells (pS v n 0).toArray 3 (0,0)):=by
  rw [(MapKept.heap_alloc w _).1];congr 2;apply Array.toList_inj.1;rw [toList_madeCells_one];simp [pS]
 obtain ⟨m0,hm0⟩:∃ m,m=Nat.min 1 n:=⟨_,rfl⟩;have hm1:m0<=1/\m0<=n/\(m0=1\/n=0):=by rw [hm0];simp only [Nat.min_def];split<;>omega
 have hbad:ad.block<w.heap.size:=World.block_lt_of_cell? w _ hc;have hcp0:=λty=>cpy 0 m0 (w.alloc (.cells (madeCells #[.int .i64 0] n) 3)) ty n n ad 1 cap bL hm0 h0 (λj u hj=>by
  have hj0:j=0:=by have:=(aL.1 hj).1;simp at this;omega
  subst hj0;rw [j6] at hj;split at hj
  .cases hj
   rw [show ad.add 0=ad by unfold Addr.add;simp];exact ((Below.refl _ w).alloc (aT _) _).cell (p:=ad) hbad |>.trans hc
  .cases hj)
 simp only [eQ] at hcp0;clear hm0;have mixed:=Tz.mixed
 go_enter func42,ntmps42
 go_wp2_with (first|(go_at_fn 79;refine (cM _).mono ?_;rintro e w' ⟨rfl,hw⟩;rw [hw,hq1,hq2])|(at_builtin;refine wpList_copy_runI _ rfl _ _ 27 27 rfl _ _ rfl rfl (hcp0 _) ?_))
 go_loopw [8] (λi wr=>∃ k:Nat,k<=n/\(0<k\/n=0)/\i=.int .i64 k/\wr.heap[w.heap.size]?=some (.cells (pS v n k).toArray 3 (0,0))/\Below w.heap.size w wr)
  (λi _=>n - (RowKit.intOf i).toNat)
 case atStart =>
  refine ⟨m0,hm1.2.1,bL,by simp [goInt],setRow_heap _ _ _ _ _ _ h0,?_⟩;exact below_setRow ((Below.refl _ w).alloc (aT _) _) (aT _) _
 case round =>
  obtain ⟨k,hk,hk0,rfl,hb,hbl⟩:=hrel;by_cases hlt:k<n
  .have hkn:¬ (n=k):=bL;have hcp1:=λty dc sc=>cpy k (Nat.min k (n - k)) wr.drew ty (n - k) dc ⟨w.heap.size,0,none⟩ k sc (by simp only [Nat.min_def];split<;>omega) rfl hb (λj u hj=>by
    have hjk:=(aL.1 hj).1;rw [sH] at hjk;rw [j6,if_pos hjk] at hj;cases hj
    have hjk2:j<k:=by simp only [Nat.min_def] at hjk;split at hjk<;>omega
    rw [jL];show wr.cell? _=_;simp [World.cell?,hb,pS,aY,hjk2])
   go_wp2
   go_region_law_o (refine step_copy_runI rfl _ _ 27 27 rfl _ _ (by simp [Act.eval,Act.put]) (by simp [Act.eval,Act.put]) (hcp1 _ _ _) ?_)
   have hmn:k+Nat.min k (n - k)<=n/\0<Nat.min k (n - k):=by simp only [Nat.min_def];split<;>omega
   simp only [Act.put,List.getElem_toArray,List.getElem_cons_succ,List.getElem_cons_zero,List.setIfInBounds_toArray,xT,nW];go_roundw;case rel =>
    refine ⟨_,_,_,_,_,_,_,_,_,_,_,_,_,_,⟨k+Nat.min k (n - k),hmn.1,bL,?_,setRow_heap wr.drew _ _ _ _ _ hb,below_setRow (w:=wr.drew) ⟨hbl.os,hbl.tape,hbl.output,hbl.size,hbl.block⟩ (aT _) _⟩,rfl⟩;congr 1;rw [IntKind.wrap_i64];omega
   case measure=>simp [RowKit.intOf,goInt,IntKind.wrap_i64];omega
  .obtain rfl:k=n:=bL
   go_wp2
   go_ret;refine ⟨_,rfl,⟨by simp,.inr ⟨w.heap.size,k,(pS v k k).toArray,rfl,aT _,hb,aT _,by simp only [maxLen];omega,by simp [pS],?_⟩⟩,hbl⟩;simp [pS]
theorem CQ (v:Int)(n:Nat)(z:n<=1000):Own prog 42 [.list [[dI v]],dI n] 3 1 ((List.replicate n v).map cI):=by
 refine ⟨⟨Tryz.f42,func42,rfl,rfl⟩,λM w f J F=>?_⟩;obtain ⟨h,r⟩:=F;match f,h with
 | [s,y],_ =>
  have H:=r 0 s _ rfl rfl;have G:=r 1 y _ rfl rfl;cases G
  rcases uX H with ⟨rfl,l⟩|⟨o,m,I,p,rfl,a,_,d,_,_,_⟩
  .cases l
  .have hx:∃ u,p[0]?=some u:=by
    have A:=a.len;simp at A;exact ⟨p[0]' bL,aA bL⟩
   obtain ⟨u,j⟩:=hx;have B:=a.Y 0 u (D.int .i64 v) j rfl;cases B
   have i:=(d 0 _ j).2;rw [show o.add 0=o by unfold Addr.add;simp] at i;refine (Nn v n z o m w i).mono λe t ⟨q,l,g,E⟩=>?_;have k:((List.replicate n v).map cI).length=n:=bS;exact ⟨q,_,l,by rw [k];exact g,λu j=>by rw [l9 j];rfl,by
    have:=BM (M:=λb=>M b\/q.ownBlock=some b) (σ:=g9) (N:=pT) (w:=t) (List.replicate n v);simpa using this,sD _,λc C=>by obtain ⟨x,_,rfl⟩:=aS.1 C;rfl,E⟩
end Go.Abs
end

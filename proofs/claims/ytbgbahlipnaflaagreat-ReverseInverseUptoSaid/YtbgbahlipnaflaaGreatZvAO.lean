/- The search of the reference. · The search of the reference:  -/
import Derived.Test.YtbgbahlipnaflaaGreatZvAG
import Derived.Test.YtbgbahlipnaflaaGreatZvAN
import Derived.Test.YtbgbahlipnaflaaGreatZvAA
import Derived.Test.YtbgbahlipnaflaaGreatZvAM
set_option linter.unusedVariables false
set_option linter.unusedSimpArgs false
section
set_option maxRecDepth 100000
set_option maxHeartbeats 4000000
open Go Go.Proofs Tryz
namespace Go.Abs
structure G17 (t:Types) (p g:Graph):Prop where
 v:t.aq
 gp:graphF p=0
 gg:graphF g=0
 tp:∀ a∈p.h,0<=a/\a<t.h.length
 tg:∀ a∈g.h,0<=a/\a<t.h.length
theorem H6 {t:Types}{g:Graph}(h:nC t g=true):∀ a∈g.h,0<=a/\a<t.h.length:=λa ha=>by
 simp only [nC,aM,cZ,gB,insideF] at h;have:=h.1 a ha;simpa using this
theorem oB {t:Types}{p g:Graph}(h:eH t p g=0):G17 t p g:=by
 unfold eH at h;split at h
 .exact absurd h ic
 .rename_i h1;split at h
  .exact absurd h ic
  .rename_i h2;split at h
   .exact absurd h ic
   .rename_i h3;split at h
    .cases h
    .rename_i h4;simp only [c8,cZ,not_or,Bool.not_eq_false] at h4;exact ⟨nI (bY h1),by simpa using h2,by simpa using h3,H6 h4.1,H6 h4.2⟩
def mNE (t:Types)(p g:Graph)(m:Part)(i:Nat):Int :=
 if m.h[i]?.getD 0<0\/(g.h.length:Int)<=m.h[i]?.getD 0 then 6
 else if vO t (p.h[i]?.getD 0) (g.h[(m.h[i]?.getD 0).toNat]?.getD 0)=true then 0 else 13
def matchE (t:Types)(p g:Graph)(m:Part)(inj:Bool):Int :=
 if m.h.length≠p.h.length\/m.i.length≠p.i.length then 20
 else if bW (mNE t p g m) 0 p.h.length≠0 then bW (mNE t p g m) 0 p.h.length
 else if bW (mapEE p g m) 0 p.i.length≠0 then bW (mapEE p g m) 0 p.i.length
 else if inj=true/\(¬ m.h.Nodup\/¬ m.i.Nodup) then 5 else 0
def checkE (t:Types)(p g:Graph)(m:Part)(inj:Bool):Int:=if eH t p g≠0 then eH t p g else matchE t p g m inj
theorem Co (t:Types)(c:t.aq)(a b:Int)(f:0<=a)(g:a<t.h.length)(e:0<=b):Pua 136 [t.d,dI a,dI b] (.bool (vO t b a)):=by
 have:=tT t c b e a.toNat aD;rw [Int.toNat_of_nonneg f] at this;exact this
theorem Qi (t:Types)(p g:Graph)(s:G17 t p g)(m:Part)(f:Bool):Pua 260 [t.d,p.d,g.d,m.d,.bool f] (dI (matchE t p g m f)):=by
 have T:=bK s.gp;have S:=bK s.gg;have A:=(dY s.gp).2;refine Tz.pK ⟨λt=>t==13||t==14,λr=>match r with|15=>[(0,14),(1,14),(3,14),(4,14),(5,14),(6,14),(7,14),(8,14),(10,14),(11,14),(12,14),(13,14),(0,15),(1,15),(3,15),(4,15),(5,15),(6,15),(7,15),(8,15),(10,15),(11,15),(12,15),(13,15),(14,15),(5,16),(6,16),(7,16),(8,16),(10,16),(11,16),(12,16),(13,16)]|_=>[]⟩ func260 rfl (λQ n=>?_);have Y:=trivial;refine eP (λV=>?_) λV=>?_
 .have hM:matchE t p g m f=20:=by unfold matchE;rw [if_pos aD]
  exact wv (h:=n _ _ (iq hM))
 .have hM:matchE t p g m f=(if bW (mNE t p g m) 0 p.h.length≠0 then bW (mNE t p g m) 0 p.h.length else if bW (mapEE p g m) 0 p.i.length≠0 then bW (mapEE p g m) 0 p.i.length else if f=true/\(¬ m.h.Nodup\/¬ m.i.Nodup) then 5 else 0):=by unfold matchE;rw [if_neg aD]
  have R:m.h.length=p.h.length:=aD;have P:m.i.length=p.i.length:=aD;refine wv (h:=bA (λi e H=>(e 5=.adr t.c/\e 6=.adr p.c/\e 7=.adr g.c/\e 8=.adr m.c/\e 4=.bool f/\e 11=dI i)/\(i<=m.h.length)/\(bW (mNE t p g m) i (p.h.length - i)=bW (mNE t p g m) 0 p.h.length)) (λi=>m.h.length - i) 0 ⟨wg,wi,(by rfl)⟩ λI0 G i e H C=>?_);obtain ⟨X,hi,L⟩:=C;have Y:=wa Y X;refine eP (λy=>?_) λy=>?_
  .have hn:i<p.h.length:=aD;have a:=fR (mNE t p g m) hn;rw [L] at a;have j:mNE t p g m i=(if m.h[i]<0\/(g.h.length:Int)<=m.h[i] then 6 else if vO t p.h[i] (g.h[m.h[i].toNat]?.getD 0)=true then 0 else 13):=by simp only [mNE,aA y,aA hn,Option.getD_some]
   have E:=s.tp _ (aC hn);have Y:=xa2 Y y (aA y) (aA hn);refine eP (λU=>?_) λU=>?_
   .rw [if_pos aD] at j;rw [j,if_pos aD] at a;rw [a,if_pos aD] at hM;exact wv (h:=n _ _ (iq hM))
   .have hkb:m.h[i].toNat<g.h.length:=aD;rw [if_neg aD,aA hkb,Option.getD_some] at j;have x:=s.tg _ (aC hkb);have Y:=wa Y (aA hkb);refine wo (h:=aH ((Co t s.v g.h[m.h[i].toNat] p.h[i] x.1 x.2 E.1)) wl ?_);refine eP (λI=>?_) λI=>?_
    .rw [if_neg (bY I)] at j;rw [j,if_pos aD] at a;rw [a,if_pos aD] at hM;exact wv (h:=n _ _ (iq hM))
    .rw [if_pos (bY I)] at j;rw [j,if_neg aD] at a;exact wo (h:=wx G (i+1) ⟨wg,wj,(a.symm)⟩)
  .have hN0:bW (mNE t p g m) 0 p.h.length=0:=by rw [<- L,(aD:p.h.length - i=0)];rfl
   rw [hN0,if_neg aD] at hM;refine wv (h:=bA (λk e H=>(e 5=.adr t.c/\e 6=.adr p.c/\e 7=.adr g.c/\e 8=.adr m.c/\e 4=.bool f/\e 12=dI k)/\(k<=m.i.length)/\(bW (mapEE p g m) k (p.i.length - k)=bW (mapEE p g m) 0 p.i.length)) (λk=>m.i.length - k) 0 ⟨wg,wi,(by rfl)⟩ λI2 F k e H B=>?_);obtain ⟨W,hk,M⟩:=B;have Y:=wa Y W;refine eP (λl=>?_) λl=>?_
   .have hn:k<p.i.length:=aD;have a:=fR (mapEE p g m) hn;rw [M] at a;have Z:=A _ (aC hn);have w:p.i[k].w.toNat<m.h.length:=aD;have u:p.i[k].M.toNat<m.h.length:=aD;have b:mapEE p g m k=(if m.i[k]<0\/(g.i.length:Int)<=m.i[k] then 6 else if p.i[k].type≠(g.i[m.i[k].toNat]?.getD cH).type then 13 else if m.h[p.i[k].w.toNat]≠(g.i[m.i[k].toNat]?.getD cH).w\/m.h[p.i[k].M.toNat]≠(g.i[m.i[k].toNat]?.getD cH).M then 11 else 0):=by
     simp only [mapEE,aA l,aA hn,Option.getD_some,aA w,aA u]
    have Y:=xa4 Y l (aA l) (aA hn) (aA w) (aA u);refine eP (λK=>?_) λK=>?_
    .rw [if_pos aD] at b;rw [b,if_pos aD] at a;rw [a,if_pos aD] at hM;exact wv (h:=n _ _ (iq hM))
    .have hkb:m.i[k].toNat<g.i.length:=aD;rw [if_neg aD,aA hkb,Option.getD_some] at b;have Y:=wa Y (aA hkb);refine eP (λq=>?_) λq=>?_
     .rw [if_pos q] at b;rw [b,if_pos aD] at a;rw [a,if_pos aD] at hM;exact wv (h:=n _ _ (iq hM))
     .rw [if_neg (bY q)] at b;refine eP (λJ=>?_) λJ=>?_
      .rw [if_pos aD] at b;rw [b,if_pos aD] at a;rw [a,if_pos aD] at hM;exact wv (h:=n _ _ (iq hM))
      .rw [if_neg aD] at b;rw [b,if_neg aD] at a;exact wo (h:=wx F (k+1) ⟨wg,wj,(a.symm)⟩)
   .have hE0:bW (mapEE p g m) 0 p.i.length=0:=by rw [<- M,(aD:p.i.length - k=0)];rfl
    rw [hE0,if_neg aD] at hM;refine wo (h:=aK (λD=>AM m.h) (λD=>wl) ?_);refine wo (h:=aK (λD=>AM m.i) (λD=>wl) ?_);refine eP (λo=>?_) λo=>?_
    .rw [if_pos (by simpa [qG] using o)] at hM;exact wv (h:=n _ _ (iq hM))
    .rw [if_neg (by simpa [qG] using o)] at hM;exact wv (h:=n _ _ (iq hM))
theorem AN (t:Types)(e:t.ok)(p g:Graph)(m:Part)(a:Bool):Pua 169 [t.d,p.d,g.d,m.d,.bool a] (dI (checkE t p g m a)):=by
 refine Tz.p0 func169 rfl λQ c Y=>?_;refine wv (h:=aB (vY t e p g) wl ?_);refine dR (λb=>?_) λb=>?_
 .exact wv (h:=c _ _ (by simp [go_sem,checkE,b]))
 .refine wv (h:=aB (Qi t p g (oB (bY b)) m a) wl ?_);exact wv (h:=c _ _ (by simp [go_sem,checkE,b]))
/-! ### the search -/
def Srch.cells (S:Srch)(most:Int)(fd:D):UN:=[.list (S.t.h.map NodeTy.c),.list (S.t.i.map EdgeTy.c),dLI S.p.h,.list (S.p.i.map Edge.c),dLI S.g.h,.list (S.g.i.map Edge.c),dLI S.pn,dLI S.pe,.bool S.inj,dI most,fd]
theorem IP (S:Srch)(a:Int)(f:D)(o:f.Q=true)(l:V2)(n:Int):Pua 384 [.adr (S.cells a f),dLI l,dI n] (.bool (S.inj&&mem l n)):=by
 refine Tz.p0 func384 rfl λQ s _=>?_;have v:∀ b:Bool,D.L (S.cells a f)=true:=λ_=>by simp [go_sem,Srch.cells,o]
 have Y:=@Srch.cells.eq_1;refine wv (h:=bA (λi e H=>(e 0=.adr (S.cells a f)/\e 1=dLI l/\e 2=dI n/\e 7=dI i)/\(i<=l.length)/\(∀ j,j<i->∀ d:j<l.length,l[j]≠n)) (λi=>l.length - i) 0 ⟨wg,wi,(by intro j d;omega)⟩ λy p i e H m=>?_);obtain ⟨w,x,t⟩:=m;have Y:=wa Y w;refine wv (h:=?_);repeat first|intro _|refine ⟨iS,?_⟩
 refine wq (λc=>?_) λc=>?_
 .have hil:i<l.length:=c.1;have Y:=xa1 Y c (aA hil);refine eP (λr=>?_) λr=>?_
  .have g:mem l n=true:=(mem_iff _ _).2 (r ▸ aC hil);have q:S.inj=true:=c.2;exact wv (h:=s _ _ (iu g q))
  .exact wo (h:=wx p (i+1) ⟨wg,wj,(by intro j d k;rcases bX j i with hji|hji;exact t j hji k;(obtain rfl:j=i:=aD;exact r))⟩)
 .have hR:(S.inj&&mem l n)=false:=by
   cases q:S.inj
   .rfl
   .simp [q] at c;rw [gW,bJ];intro g;obtain ⟨j,d,u⟩:=aO ((mem_iff _ _).1 g);exact t j aD d u
  exact wv (h:=s _ _ (iq hR))
theorem Ea (a b:Int):(a==b)=decide (a=b):=by rw [aU];simp
theorem Bm (f:Nat->Bool)(k:Nat):(List.range (k+1)).any f=((List.range k).any f||f k):=by rw [bR,xI];simp
theorem S0 (S:Srch)(L:graphF S.p=0)(P:graphF S.g=0)(d:Int)(y:D)(R:y.Q=true)(l:V2):Pua 382 [.adr (S.cells d y),dLI l] (.bool (w8 S l)):=by
 have A:=(dY L).2;have O:=bK L;have N:=bK P;refine Tz.pK ⟨λt=>t==6||t==9,λ_=>[]⟩ func382 rfl (λQ M=>?_);have Y:=@Srch.cells.eq_1;refine wv (h:=bA (λi e H=>(e 0=.adr (S.cells d y)/\e 1=dLI l/\e 5=dI i)/\(i<=S.p.i.length)/\(∀ j,j<i->CN S l j=true)) (λi=>S.p.i.length - i) 0 ⟨wg,wi,(by intro j C;omega)⟩ λZ s i e H F=>?_);obtain ⟨V,W,I⟩:=F;have Y:=wa Y V;refine eP (λm=>?_) λm=>?_
 .obtain ⟨x,v⟩:=c7 (S.p.i[i]);have z:=(A _ (aC m)).2;rw [<- v] at z;have f:CN S l i=(decide ((l.length:Int)<=x.w)||decide ((l.length:Int)<=x.M)||(List.range S.g.i.length).any (Ar S l i)):=by unfold CN;rw [aA m,Option.getD_some,<- v]
  have Y:=xa3 Y m (aA m) (Eq.symm v) @Edge.c.eq_1;refine eP (λK=>?_) λK=>?_
  .have hKi:CN S l i=true:=by rw [f];rcases K with h|h<;>simp<;>omega
   exact wo (h:=wx s (i+1) ⟨wg,wj,(by intro j C;rcases bX j i with hji|hji;exact I j hji;(obtain rfl:j=i:=aD;exact hKi))⟩)
  .have hf:x.w.toNat<l.length:=aD;have r:x.M.toNat<l.length:=aD;have T:∀ k (B:k<S.g.i.length),Ar S l i k=(decide (x.type=S.g.i[k].type)&&(decide (S.g.i[k].w=l[x.w.toNat])&&decide (S.g.i[k].M=l[x.M.toNat]))):=λk B=>by
    simp only [Ar,edX,WD,aA B,aA m,Option.getD_some,<- v,aA hf,aA r];simp [eq_comm (a:=x.type)]
   have Y:=xa2 Y K (aA hf) (aA r);refine wv (h:=bA (λk e H=>∃ q:Nat,∃ b:Bool,(e 0=.adr (S.cells d y)/\e 1=dLI l/\e 5=dI i/\e 6=.ptr q 1 0 0/\e 7=.bool b/\e 8=dI k)/\(H.get q=some ⟨145,3,[[dI x.type,dI x.w,dI x.M]],false⟩)/\(q<H.next)/\(k<=S.g.i.length)/\(b=(List.range k).any (Ar S l i))) (λk=>S.g.i.length - k) 0 ⟨H.next,false,wg,wn,wn,wi,(by rfl)⟩ λX J k e H E=>?_);obtain ⟨q,b,U,u,o,B,G⟩:=E;have Y:=xa2 Y U u (bS o);refine eP (λw=>?_) λw=>?_
   .have hHk:=T k w;have Y:=xa4 Y w (aA w) hHk @Ea @mW;exact wo (h:=wx J (k+1) ⟨q,((b||Ar S l i k)),wg,wn,wn,wj,(by rw [Bm,<- G])⟩)
   .refine eP (λn=>?_) λn=>?_
    .have hR:w8 S l=false:=by
      simp only [w8,Ap,aV];refine ⟨i,m,?_⟩;rw [f,<- show k=S.g.i.length by omega,<- G];simp [n];omega
     exact wv (h:=M _ _ (iq hR))
    .have hKi:CN S l i=true:=by rw [f,<- show k=S.g.i.length by omega,<- G];simp [n]
     exact wo (h:=wx s (i+1) ⟨wg,wj,(by intro j C;rcases bX j i with hji|hji;exact I j hji;(obtain rfl:j=i:=aD;exact hKi))⟩)
 .have hR:w8 S l=true:=by
   simp only [w8,cF,aV];exact λj C=>I j aD
  exact wv (h:=M _ _ (iq hR))
structure SrS (f o:Nat) (S:Srch) (most:Nat) (out:List Part) (H:AHeap):Prop where
 bf:H.get f=some ⟨365,11,[S.cells most (.own o out.length)],false⟩
 bo:H.get o=some ⟨36,2,out.map Part.c,false⟩
 le:out.length<=most+1
@[go_sem] theorem xW (l:List Part):D.R (l.map Part.c)=true:=d9 _ (λp=>by simp [Part.c,D.L,rA]) l
theorem Qj (S:Srch)(hp:graphF S.p=0)(hg:graphF S.g=0)(b4:S.pe.length=S.p.i.length)(i:Nat)(b7:i<=5000)(ns:V2)(b6:ns.length=S.p.h.length)(f o:Nat)(hd:f≠o) :
  ∀ (d:Nat) (es:V2) (m:List Part) (G:AHeap) (Q:D->AHeap->Prop),es.length+d=S.p.i.length->f<G.next->o<G.next->SrS f o S i m G ->
  (∀ H',SrS f o S i (K7 S (i+1) ns d es m) H'->(∀ j,j≠f->j≠o->j<G.next->H'.get j=G.get j)->G.next<=H'.next->Q (.tup []) H')->ACalls prog 383 [.ptr f 1 0 0,dLI ns,dLI es] G Q:=by
 have b9:=bK hp;have b8:=bK hg;have a4:∀ x∈S.p.i,(0<=x.w/\x.w<S.p.h.length)/\(0<=x.M/\x.M<S.p.h.length):=λx hx=>((dY hp).2 x hx).2;intro d;induction d using Nat.strongRecOn with
 | _ d ih =>
 intro es m G Q hk a6 a2 hF hQ;obtain ⟨gf,go,P⟩:=hF;have a7:=hd.symm;have ff:=bS a6;have fo:=bS a2;refine (Tz.cK ⟨λt=>t==7||t==9||t==35||t==38||t==128,λr=>match r with|3=>[(2,5),(3,5),(4,5),(2,7),(3,7),(4,7),(2,8),(3,8),(4,8),(5,8),(7,8),(2,10),(3,10),(4,10),(2,12),(3,12),(4,12)]|_=>[]⟩ func383 rfl ?_);have Y:=xa6 gf go hd a7 ff fo @Part.c.eq_1 @Srch.cells.eq_1;refine iY (λh0=>?_) λh0=>?_
 .have hfull:i+1<=m.length:=aD;refine wv (h:=?_);exact hQ _ (by rw [Ik _ _ _ hfull];exact ⟨gf,go,P⟩) (by intro j _ _ _;rfl) (by first|exact bC _|exact Nat.le_add_right _ _)
 .have hnf:¬ i+1<=m.length:=aD;refine iY (λs=>?_) λs=>?_
  .have hk0:d=0:=aD;subst hk0;refine wp (h:=?_);exact hQ _ (by simp only [K7];rw [if_neg hnf];exact ⟨by simp [go_sem,Y],by simp [go_sem,Y],by simp;omega⟩) (by intro j v s z;simp [go_sem,v,s,bS z]) (by first|exact bC _|(simp [go_sem]<;>omega)|(simp only [go_sem];split<;>omega))
  .obtain ⟨J,rfl⟩:∃ J,d=J+1:=⟨d - 1,aD⟩;have F:es.length<S.p.i.length:=aD;have N:es.length<S.pe.length:=aD;have V:=a4 _ (aC F);have U:S.p.i[es.length].w.toNat<ns.length:=aD;have R:S.p.i[es.length].M.toNat<ns.length:=aD;have O:∀ j (hj:j<S.g.i.length),Te S ns es j=((decide (S.pe[es.length]<0)||decide (S.pe[es.length]=(j:Int)))&&(!(S.inj&&mem es j)&&(decide (S.p.i[es.length].type=S.g.i[j].type)&&(decide (S.g.i[j].w=ns[S.p.i[es.length].w.toNat])&&decide (S.g.i[j].M=ns[S.p.i[es.length].M.toNat]))))):=λj hj=>by
    simp only [Te,yE,Ar,edX,WD,aA hj,aA F,aA N,Option.getD_some,aA U,aA R];simp [eq_comm (a:=S.p.i[es.length].type)]
   have Y:=xa3 Y (aA F) (aA N) (aA U) (aA R);refine wp (h:=bA (λj e H=>∃ w:Nat,∃ u:List Part,(e 0=.ptr f 1 0 0/\e 1=dLI ns/\e 2=dLI es/\e 6=dI es.length/\e 7=.ptr w 1 0 0/\e 8=dI j)/\(H.get f=some ⟨365,11,[S.cells i (.own o u.length)],false⟩)/\(f<H.next)/\(H.get o=some ⟨36,2,u.map Part.c,false⟩)/\(o<H.next)/\(H.get w=some ⟨145,3,[S.p.i[es.length].c],false⟩)/\(w<H.next)/\(w=G.next+10)/\(j<=S.g.i.length)/\(u.length<=i+1)/\(u=(List.range j).foldl (λu k=>if Te S ns es k=true then K7 S (i+1) ns J (es++[(k:Int)]) u else u) m)/\(∀ q,q≠f->q≠o->q<G.next->H.get q=G.get q)/\(G.next+1<=H.next)) (λj=>S.g.i.length - j) 0 ⟨(G.next+10),m,wg,wn,wn,wn,wn,wn,wn,(by rfl),wi,(by exact P),(by rfl),(by intro q v s z;simp [go_sem,v,s,bS z]),eq⟩ λI0 W j e H a5=>?_);obtain ⟨w,u,E0,a1,L,a0,K,I,C,M,hj,n,E,y,b5⟩:=a5;have b2:=xa1 (dJ (aD:w≠o)) (dJ (aD:w≠f)) (dJ (aD:o≠f));have Y:=xa8 Y E0 a1 (bS L) a0 (bS K) I (bS C) @Edge.c.eq_1 b2;refine iY (λh6=>?_) λh6=>?_
   .have hEj:=O j h6;have c1:=V.1;have c0:=V.2;have o1:(0<=S.pe[es.length]->S.pe[es.length]=(j:Int))->(S.inj=true->mem es (j:Int)=false)->(S.pe[es.length]<0\/S.pe[es.length]=(j:Int))/\(S.inj=false\/mem es (j:Int)=false):=λa b=>⟨aD,by cases hI:S.inj;exact .inl rfl;exact .inr (b hI)⟩;have o2:(S.pe[es.length]<0\/S.pe[es.length]=(j:Int))->(S.inj=false\/mem es (j:Int)=false)->S.p.i[es.length].type=S.g.i[j].type->0<=S.p.i[es.length].w/\S.p.i[es.length].w<(ns.length:Int):=λ_ _ _=>by omega
    have o3:(0<=S.pe[es.length]->S.pe[es.length]=(j:Int))->(S.inj=true->mem es (j:Int)=false)->S.p.i[es.length].type=S.g.i[j].type->((S.pe[es.length]<0\/S.pe[es.length]=(j:Int))/\(S.inj=false\/mem es (j:Int)=false))/\S.p.i[es.length].type=S.g.i[j].type:=λa b c=>⟨o1 a b,c⟩;have o4:(S.pe[es.length]<0\/S.pe[es.length]=(j:Int))->(S.inj=false\/mem es (j:Int)=false)->S.p.i[es.length].type=S.g.i[j].type->S.g.i[j].w=ns[S.p.i[es.length].w.toNat]->0<=S.p.i[es.length].M/\S.p.i[es.length].M<(ns.length:Int):=λ_ _ _ _=>by omega
    have o5:(0<=S.pe[es.length]->S.pe[es.length]=(j:Int))->(S.inj=true->mem es (j:Int)=false)->S.p.i[es.length].type=S.g.i[j].type->S.g.i[j].w=ns[S.p.i[es.length].w.toNat]->(((S.pe[es.length]<0\/S.pe[es.length]=(j:Int))/\(S.inj=false\/mem es (j:Int)=false))/\S.p.i[es.length].type=S.g.i[j].type)/\S.g.i[j].w=ns[S.p.i[es.length].w.toNat]:=λa b c d=>⟨⟨o1 a b,c⟩,d⟩;have Y:=xa1 Y h6 (aA h6);refine wp (h:=w9 (λhg=>IP S i (.list (u.map Part.c)) (by simp [D.Q,xW]) es j) wrq (λhg=>wl) (λhg=> rfl) rfl wdq ?_);refine iY (λh9=>?_) λh9=>?_
    .have hE:Te S ns es j=false:=by
      rw [hEj,bJ];intro hT;simp at hT;obtain ⟨a,b,c,d,e⟩:=hT;rcases h9 with (((h|h)|h)|h)|h
      .omega
      .rcases b with b|b
       .rw [b] at h;cases h.1
       .rw [b] at h;cases h.2
      .exact h c
      .exact h d
      .exact h e
     obtain ⟨B,l⟩:∃ x,x=u:=⟨_,rfl⟩;have Y:=xa2 Y @Part.c.eq_1 @Edge.c.eq_1 l;exact wp (h:=wx W (j+1) ⟨w,B,wg,wn,wn,wn,wn,wn,wn,(by exact M),wj,(by rw [l];first|exact n|exact E8 _ _ _ _ _ n|exact E8 _ _ _ _ n),(by rw [fA,<- E];first|exact l|(rw [l];first|rw [if_pos hE]|rw [if_neg (by rw [hE];simp)])),(by first|exact A|(intro q v s z;simp [go_sem,v,s,bS (aD:q<H.next)];exact y q v s z)),(by first|omega|(simp [go_sem];omega))⟩)
    .have hE:Te S ns es j=true:=by
      obtain ⟨⟨⟨⟨a,b⟩,c⟩,d⟩,e⟩:=h9;rw [hEj];simp [c,d,e];exact ⟨aD,by cases hI:S.inj;exact .inl rfl;exact .inr (b hI)⟩
     obtain ⟨B,l⟩:∃ x,x=K7 S (i+1) ns J (es++[(j:Int)]) u:=⟨_,rfl⟩;have Y:=xa2 Y @Part.c.eq_1 @Edge.c.eq_1 h9;refine wp (h:=?_);refine Nm (args':=[.ptr f 1 0 0,dLI ns,dLI (es++[(j:Int)])]) (by simp [go_sem,Y,dLI]) rfl ?_;unfold fT;refine ih J aD (es++[(j:Int)]) u _ _ ie ib ib ⟨by simp [go_sem,Y],by simp [go_sem,Y],n⟩ (λH3 X T a3=>?_);rw [<- l] at X;obtain ⟨b0,a9,b3⟩:=X;have Z:=T w aD aD ib;simp [go_sem,Y] at Z;simp [go_sem] at a3;have A:∀ j,j≠f->j≠o->j<G.next->H3.get j=G.get j:=λj v s z=>by
      have e1:=bS (aD:j<H.next);rw [T j v s ib];simp [go_sem,v,s,e1];exact y j v s z
     have b1:=xa1 (bS (aD:f<H3.next)) (bS (aD:o<H3.next)) (bS (aD:w<H3.next));have Y:=xa3 Y b0 a9 Z b1;exact wp (h:=wx W (j+1) ⟨w,B,wg,wn,wn,wn,wn,wn,wn,(by exact M),wj,(by rw [l];first|exact n|exact E8 _ _ _ _ _ n|exact E8 _ _ _ _ n),(by rw [fA,<- E];first|exact l|(rw [l];first|rw [if_pos hE]|rw [if_neg (by rw [hE];simp)])),(by first|exact A|(intro q v s z;simp [go_sem,v,s,bS (aD:q<H.next)];exact y q v s z)),(by first|omega|(simp [go_sem];omega))⟩)
   .have hJ:j=S.g.i.length:=aD;have a8:K7 S (i+1) ns (J+1) es m=u:=by simp only [K7];rw [if_neg hnf,E,hJ]
    refine wv (h:=?_);exact hQ _ (by rw [a8];exact ⟨by assumption,by assumption,n⟩) y aD
theorem Qh (S:Srch)(y:G17 S.t S.p S.g)(b3:S.pn.length=S.p.h.length)(a1:S.pe.length=S.p.i.length)(i:Nat)(a3:i<=5000)(f o:Nat)(hd:f≠o) :
  ∀ (d:Nat) (ns:V2) (l:List Part) (G:AHeap) (Q:D->AHeap->Prop),ns.length+d=S.p.h.length->f<G.next->o<G.next->SrS f o S i l G ->
  (∀ H',SrS f o S i (SD S (i+1) d ns l) H'->(∀ j,j≠f->j≠o->j<G.next->H'.get j=G.get j)->G.next<=H'.next->Q (.tup []) H')->ACalls prog 335 [.ptr f 1 0 0,dLI ns] G Q:=by
 have b5:=bK y.gp;have b4:=bK y.gg;intro d;induction d using Nat.strongRecOn with
 | _ d ih =>
 intro ns l G Q hk L I hF hQ;obtain ⟨gf,go,J⟩:=hF;have a5:=hd.symm;have ff:=bS L;have fo:=bS I;refine (Tz.cK ⟨λt=>t==97,λ_=>[]⟩ func335 rfl ?_);have Y:=xa6 gf go hd a5 ff fo @Part.c.eq_1 @Srch.cells.eq_1;refine wp (h:=w9 (λK=>S0 S y.gp y.gg i (.list (l.map Part.c)) (by simp [D.Q,xW]) ns) wrq (λK=>wl) (λK=> rfl) rfl wdq ?_);refine iY (λh0=>?_) λh0=>?_
 .have hX:SD S (i+1) d ns l=l:=by
   cases d<;>(simp only [SD];rw [if_pos];rcases h0 with h|h;exact .inl aD;exact .inr (bY h))
  refine wv (h:=?_);exact hQ _ (by rw [hX];exact ⟨gf,go,J⟩) (by intro j _ _ _;rfl) (by first|exact bC _|exact Nat.le_add_right _ _)
 .have hnf:¬ (i+1<=l.length\/w8 S ns=false):=by rintro (h|h);(omega);(simp [h] at h0)
  refine iY (λn=>?_) λn=>?_
  .have hk0:d=0:=aD;subst hk0;refine wv (h:=?_);refine RR (args':=[.ptr f 1 0 0,dLI ns,dLI []]) (by simp [go_sem,Y,dLI,V4]) ?_;unfold fT;refine Qj S y.gp y.gg a1 i a3 ns aD f o hd S.p.i.length [] l _ _ aE (by first|exact L|exact Nat.lt_add_right _ L) (by first|exact I|exact Nat.lt_add_right _ I) ⟨gf,go,J⟩ (λH3 A M z=>?_);refine wv (h:=?_);exact hQ _ (by simp only [SD];rw [if_neg hnf];exact A) (λj w n B=>M j w n (by first|exact B|exact Nat.lt_add_right _ B)) (by first|exact z|exact dZ (Nat.le_add_right _ _) z)
  .obtain ⟨O,rfl⟩:∃ O,d=O+1:=⟨d - 1,aD⟩;have N:ns.length<S.p.h.length:=aD;have T:ns.length<S.pn.length:=aD;have a6:=y.tp _ (aC N);have U:∀ j (hj:j<S.g.h.length),Ly S ns j=((decide (S.pn[ns.length]<0)||decide (S.pn[ns.length]=(j:Int)))&&(!(S.inj&&mem ns j)&&vO S.t S.p.h[ns.length] S.g.h[j])):=λj hj=>by
    simp only [Ly,yE,aA hj,aA N,aA T,Option.getD_some]
   have Y:=xa1 Y (aA N) (aA T);refine wv (h:=bA (λj e H=>∃ r:List Part,(e 0=.ptr f 1 0 0/\e 1=dLI ns/\e 4=dI ns.length/\e 5=dI j)/\(H.get f=some ⟨365,11,[S.cells i (.own o r.length)],false⟩)/\(f<H.next)/\(H.get o=some ⟨36,2,r.map Part.c,false⟩)/\(o<H.next)/\(j<=S.g.h.length)/\(r.length<=i+1)/\(r=(List.range j).foldl (λr k=>if Ly S ns k=true then SD S (i+1) O (ns++[(k:Int)]) r else r) l)/\(∀ q,q≠f->q≠o->q<G.next->H.get q=G.get q)/\(G.next<=H.next)) (λj=>S.g.h.length - j) 0 ⟨l,wg,wn,wn,wn,wn,wi,(by exact J),(by rfl),(by intro q w n B;rfl),eq⟩ λI0 W j e H a4=>?_);obtain ⟨r,E0,a0,R,Z,P,hj,s,F,u,a2⟩:=a4;have b1:=dJ (aD:o≠f);have Y:=xa5 Y E0 a0 (bS R) Z (bS P) b1;refine iY (λX=>?_) λX=>?_
   .have hEj:=U j X;have o1:(0<=S.pn[ns.length]->S.pn[ns.length]=(j:Int))->(S.inj=true->mem ns (j:Int)=false)->(S.pn[ns.length]<0\/S.pn[ns.length]=(j:Int))/\(S.inj=false\/mem ns (j:Int)=false):=λa b=>⟨aD,by cases hI:S.inj;exact .inl rfl;exact .inr (b hI)⟩;have V:=y.tg _ (aC X);have Y:=xa1 Y X (aA X);refine wp (h:=w9 (λK=>IP S i (.list (r.map Part.c)) (by simp [D.Q,xW]) ns j) wrq (λK=>wl) (λK=> rfl) rfl wdq ?_);refine wp (h:=dM (λK=>(by have hq:=Co S.t y.v S.g.h[j] S.p.h[ns.length] V.1 V.2 a6.1;unfold Types.d Types.c dI at hq;exact hq)) (λK=>wl) ?_);refine iY (λh7=>?_) λh7=>?_
    .have hE:Ly S ns j=false:=by
      rw [hEj,bJ];intro hT;simp at hT;obtain ⟨a,b,c⟩:=hT;rcases h7 with (h|h)|h
      .omega
      .rcases b with b|b
       .rw [b] at h;cases h.1
       .rw [b] at h;cases h.2
      .rw [c] at h;cases h
     obtain ⟨E,m⟩:∃ x,x=r:=⟨_,rfl⟩;have Y:=xa1 Y @Part.c.eq_1 m;exact wp (h:=wx W (j+1) ⟨E,wg,wn,wn,wn,wn,wj,(by rw [m];first|exact s|exact Xi y.gp _ _ s),(by rw [fA,<- F,m];first|rw [if_pos hE]|rw [if_neg (by rw [hE];simp)]),(by first|exact C|exact u|(intro q w n B;simp [go_sem,w,n,bS (aD:q<H.next)];exact u q w n B)),(by first|omega|(simp [go_sem];omega))⟩)
    .have hE:Ly S ns j=true:=by
      obtain ⟨⟨a,b⟩,c⟩:=h7;rw [hEj];simp [c];exact ⟨aD,by cases hI:S.inj;exact .inl rfl;exact .inr (b hI)⟩
     obtain ⟨E,m⟩:∃ x,x=SD S (i+1) O (ns++[(j:Int)]) r:=⟨_,rfl⟩;have Y:=xa1 Y @Part.c.eq_1 h7;refine wp (h:=?_);refine Nm (args':=[.ptr f 1 0 0,dLI (ns++[(j:Int)])]) (by simp [go_sem,Y,dLI]) rfl ?_;unfold fT;refine ih O aD (ns++[(j:Int)]) r _ _ ie ib ib ⟨by simp [go_sem,Y],by simp [go_sem,Y],s⟩ (λH3 A M z=>?_);rw [<- m] at A;obtain ⟨a9,a8,b2⟩:=A;simp [go_sem] at z;have C:∀ j,j≠f->j≠o->j<G.next->H3.get j=G.get j:=λj w n B=>by
      have e1:=bS (aD:j<H.next);rw [M j w n ib];simp [go_sem,w,n,e1];exact u j w n B
     have b0:=xa0 (bS (aD:f<H3.next)) (bS (aD:o<H3.next));have Y:=xa2 Y a9 a8 b0;exact wp (h:=wx W (j+1) ⟨E,wg,wn,wn,wn,wn,wj,(by rw [m];first|exact s|exact Xi y.gp _ _ s),(by rw [fA,<- F,m];first|rw [if_pos hE]|rw [if_neg (by rw [hE];simp)]),(by first|exact C|exact u|(intro q w n B;simp [go_sem,w,n,bS (aD:q<H.next)];exact u q w n B)),(by first|omega|(simp [go_sem];omega))⟩)
   .have hJ:j=S.g.h.length:=aD;have a7:SD S (i+1) (O+1) ns l=r:=by simp only [SD];rw [if_neg hnf,F,hJ]
    refine wv (h:=?_);exact hQ _ (by rw [a7];exact ⟨by assumption,by assumption,s⟩) u a2
@[go_sem] theorem agT {n:Nat}{c:UN}(h:D.L c=true):D.R (List.replicate n c)=true:=by
 induction n with
 | zero=>rfl
 | succ n ih=>simp [nE,D.R,h,ih]
def Sj (n i:Nat):V2:=List.replicate i (-1)++List.replicate (n - i) 0
theorem HD {n i:Nat}(h:i<=n):(Sj n i).length=n:=by simp [Sj];omega
theorem Ur {n i:Nat}(h:i<n):(Sj n i).set i (-1)=Sj n (i+1):=by
 unfold Sj;rw [nU _ _ aE,fM,vP,show n - i=(n - (i+1))+1 by omega,nE,B5];simp
theorem Us (n:Nat):Sj n n=List.replicate n (-1):=by simp [Sj]
theorem QN (n:Nat):Sj n 0=List.replicate n 0:=by simp [Sj]
theorem SZ (p:Graph)(M:p.h.length<=100000)(P:p.i.length<=100000):Pua 257 [p.d] (.agg [dLI (List.replicate p.h.length (-1)),dLI (List.replicate p.i.length (-1))]):=by
 refine Tz.pK ⟨λt=>t==2||t==3,λr=>match r with|1=>[(3,4),(3,5),(3,6),(0,7),(1,7),(2,7),(3,7),(0,9),(1,9),(2,9),(3,9),(4,9),(5,9),(6,9),(7,9)]|_=>[]⟩ func257 rfl (λQ L=>?_);have Y:=trivial;refine wp (h:=bA (λi e H=>(e 1=.adr p.c/\e 2=.ptr 0 1 0 0/\e 3=.ptr 10 1 0 0/\e 4=dI i)/\(H.get 0=some ⟨36,2,[[.nil,.nil]],false⟩)/\(0<H.next)/\(H.get 10=some ⟨36,2,[[.own 4 p.h.length,.own 8 p.i.length]],false⟩)/\(10<H.next)/\(H.get 4=some ⟨3,1,(Sj p.h.length i).map cI,false⟩)/\(4<H.next)/\(H.get 8=some ⟨3,1,(Sj p.i.length 0).map cI,false⟩)/\(8<H.next)/\(i<=p.h.length)/\((Sj p.h.length i).length=p.h.length)) (λi=>p.h.length - i) 0 ⟨wg,wn,wn,wn,wn,(by simp [go_sem,QN,cI]),wn,(by simp [go_sem,QN,cI]),wn,wi,(by exact HD aD)⟩ λS F i e H D=>?_);obtain ⟨K,y,u,l,b,g,q,v,n,O,B⟩:=D;have Y:=xa9 Y K y (bS u) l (bS b) g (bS q) v (bS n) B;refine iY (λI=>?_) λI=>?_
 .have hS:=Ur I;have z:i<(Sj p.h.length i).length:=aD;have Y:=xa1 Y I (aA z);exact wp (h:=wx F (i+1) ⟨wg,wn,wn,wn,wn,(by simp [go_sem,Y,<- hS,cW,cI]),wn,cl,wn,wj,(by exact HD aD)⟩)
 .have hie:i=p.h.length:=aD;rw [hie,Us] at g;have Y:=xa8 K y (bS u) l (bS b) g (bS q) v (bS n) B;refine wv (h:=bA (λk e H=>(e 1=.adr p.c/\e 2=.ptr 0 1 0 0/\e 3=.ptr 10 1 0 0/\e 5=dI k)/\(H.get 0=some ⟨36,2,[[.nil,.nil]],false⟩)/\(0<H.next)/\(H.get 10=some ⟨36,2,[[.own 4 p.h.length,.own 8 p.i.length]],false⟩)/\(10<H.next)/\(H.get 4=some ⟨3,1,(List.replicate p.h.length (-1:Int)).map cI,false⟩)/\(4<H.next)/\(H.get 8=some ⟨3,1,(Sj p.i.length k).map cI,false⟩)/\(8<H.next)/\(k<=p.i.length)/\((Sj p.i.length k).length=p.i.length)) (λk=>p.i.length - k) 0 ⟨wg,wn,wn,wn,wn,wn,wn,cl,wn,wi,(by exact HD aD)⟩ λR E k e H C=>?_);obtain ⟨J,x,s,j,a,w,o,f,m,N,A⟩:=C;have Y:=xa9 Y J x (bS s) j (bS a) w (bS o) f (bS m) A;refine iY (λG=>?_) λG=>?_
  .have hS:=Ur G;have z:k<(Sj p.i.length k).length:=aD;have Y:=xa1 Y G (aA z);exact wp (h:=wx E (k+1) ⟨wg,wn,wn,wn,wn,wn,wn,(by simp [go_sem,Y,<- hS,cW,cI]),wn,wj,(by exact HD aD)⟩)
  .have hke:k=p.i.length:=aD;rw [hke,Us] at f;have Y:=xa9 B J x (bS s) j (bS a) w (bS o) f (bS m) A;exact wv (h:=L _ _ (by simp [go_sem,Y,dLI]))
theorem QO (l:List Part):eW (l.map Part.c)=l.map Part.c:=kQ λc hc=>by
 rw [aT] at hc;obtain ⟨x,_,rfl⟩:=hc;simp [Part.c,iI,mK,dLI,eQ]
theorem VK (S:Srch)(n:G17 S.t S.p S.g)(f:S.pn.length=S.p.h.length)(i:S.pe.length=S.p.i.length)(a:Nat)(j:a<=5000) :
  Pua 256 [S.t.d,S.p.d,S.g.d,.agg [dLI S.pn,dLI S.pe],.bool S.inj,dI a] (.list (((yU S).take (a+1)).map Part.c)):=by
 have b:SD S (a+1) S.p.h.length [] []=(yU S).take (a+1):=by rw [SC n.gp (a+1) _ _ _ aE];simp [yU]
 obtain ⟨L,s⟩:=c7 ((yU S).take (a+1));rw [<- s] at b ⊢;refine qP gt (λQ r=>(Tz.cK ⟨λt=>t==21,λ_=>[]⟩ func256 rfl ?_));have Y:=trivial;refine wv (h:=?_);refine zR (.step (.refl _) 0 0 10 36 2 _ _ ig rfl rfl rfl) ?_;simp [go_sem];refine RR (args':=[.ptr 0 1 0 0,dLI []]) (by simp [go_sem,dLI,V4]) ?_;unfold fT;refine Qh S n f i a j 0 1 aD S.p.h.length [] [] _ _ aE eq eq ⟨by simp [go_sem,Srch.cells,Types.c,Graph.c,dLI,dI],by simp [go_sem],by simp⟩ (λu e q o=>?_);rw [b] at e;obtain ⟨l,k,m⟩:=e;have Y:=xa2 Y l k @Srch.cells.eq_1;refine wv (h:=?_);exact r _ _ (by simp [go_sem,Y,mK,QO])
def dO (x:Term)(vs:V2):Int:=if x.O<0 then x.add else vs[x.O.toNat]?.getD 0+x.add
def Sm (vs:V2):Prop:=∀ v∈vs,-4000000<=v/\v<=4000000
theorem Sm.get {vs:V2}(h:Sm vs){k:Nat}(hk:k<vs.length) : -4000000<=vs[k]/\vs[k]<=4000000:=h _ (aC hk)
def rH (x:Term)(n:Nat):Prop:=(-1<=x.O/\x.O<n)/\(-1000000<=x.add/\x.add<=1000000)
theorem sN (x:Term)(vs:V2)(e:rH x vs.length)(f:Sm vs):Pua 258 [.agg x.c,dLI vs] (dI (dO x vs)):=by
 have a:=e;obtain ⟨⟨l,k⟩,j,i⟩:=a;refine Tz.p0 func258 rfl λQ b _=>?_;have Y:=@Term.c.eq_1;refine dR (λd=>?_) λd=>?_
 .exact wv (h:=b _ _ (by simp [go_sem,dO,d]))
 .have hk:x.O.toNat<vs.length:=aD;have g:=f.get hk;have Y:=wa Y (aA hk);exact wo (h:=b _ _ (by simp [go_sem,dO,(aD:¬ x.O<0),aA hk]))
theorem kO (x:Term)(vs:V2)(d:rH x vs.length)(f:Sm vs):Pua 178 [.agg x.c,dLI vs] (.tup [dI (dO x vs),dI 0]):=by
 have a:=d;obtain ⟨⟨k,j⟩,i,g⟩:=a;refine Tz.p0 func178 rfl λQ e _=>?_;have Y:=@Term.c.eq_1;refine eP (λb=>?_) λb=>?_
 .have Y:=wa Y b;exact wv (h:=e _ _ wy)
 .refine wv (h:=aB (sN x vs d f) wl ?_);have Y:=wa Y b;exact wv (h:=e _ _ wy)
theorem Gq (x:Term)(vs:V2)(f:rH x vs.length)(g:Sm vs):Pua 336 [.agg x.c,dLI vs] (.tup [dI (dO x vs),.bool true]):=by
 have a:=f;obtain ⟨⟨m,l⟩,k,j⟩:=a;refine Tz.p0 func336 rfl λQ b _=>?_;have Y:=@Term.c.eq_1;refine dR (λd=>?_) λd=>?_
 .exact wv (h:=b _ _ (by simp [go_sem,dO,d]))
 .refine eP (λe=>?_) λe=>?_
  .have Y:=xa1 Y d e;exact wv (h:=b _ _ wy)
  .have hk:x.O.toNat<vs.length:=aD;have i:=g.get hk;have Y:=wa Y (aA hk);exact wo (h:=b _ _ (by simp [go_sem,dO,aA hk];omega))
def BT (x:Test)(vs:V2):Bool:=(decide (x.D=1)&&decide (dO x.left vs<=dO x.right vs))||(decide (x.D=2)&&decide (dO x.left vs=dO x.right vs))
def KL (x:Test)(n:Nat):Prop:=(x.D=1\/x.D=2)/\rH x.left n/\rH x.right n
theorem QB (x:Test)(vs:V2)(b:KL x vs.length)(a:Sm vs):Pua 259 [.agg x.c,dLI vs] (.bool (BT x vs)):=by
 obtain ⟨g,e,d⟩:=b;refine Tz.p0 func259 rfl λQ f _=>?_;have Y:=@Test.c.eq_1;refine wv (h:=?_);refine aB (Gq x.left vs e a) wl ?_;refine wv (h:=?_);refine aB (Gq x.right vs d a) wl ?_;refine wv (h:=?_);repeat first|intro _|refine ⟨iS,?_⟩
 exact f _ _ (by simp [go_sem,BT,Ea])
def haveV (h:Host)(m:Part)(s:Slot):Int:=(h.k[(m.h[s.node.toNat]?.getD 0).toNat]?.getD [])[s.J.toNat]?.getD 0
def mB (st:V2 × List Bool)(s:Slot):Bool:=decide (0<=s.y.O)&&!(st.2[s.y.O.toNat]?.getD false)
def mF (h:Host)(m:Part)(st:V2 × List Bool)(s:Slot):V2 × List Bool :=
 if mB st s=true then (st.1.set s.y.O.toNat (haveV h m s - s.y.add),st.2.set s.y.O.toNat true) else st
def slotsV (h:Host)(m:Part):V2 × List Bool->List Slot->Option (V2 × List Bool)
 | st,[]=>some st
 | st,s :: l=>if dO s.y (mF h m st s).1=haveV h m s then slotsV h m (mF h m st s) l else none
theorem AD (h:Host)(m:Part)(s:Slot):∀ (l:List Slot) (st:V2 × List Bool),slotsV h m st (l++[s])=(slotsV h m st l).bind λq=>if dO s.y (mF h m q s).1=haveV h m s then some (mF h m q s) else none
 | [],st=>by simp [slotsV]
 | a :: l,st=>by
  simp only [dP,slotsV];split
  .exact AD h m s l _
  .rfl
theorem F6 (h:Host)(m:Part):∀ (l r:List Slot) (st:V2 × List Bool),slotsV h m st l=none->slotsV h m st (l++r)=none
 | [],r,st,hn=>by simp [slotsV] at hn
 | a :: l,r,st,hn=>by
  simp only [dP,slotsV] at hn ⊢;split at hn
  .rename_i he;rw [if_pos he];exact F6 h m l r _ hn
  .rename_i he;rw [if_neg he]
theorem vS {h:Host}{m:Part}{l:List Slot}{i:Nat}(d:i<l.length){a q:V2 × List Bool}(c:slotsV h m a (l.take i)=some q) :
  (dO l[i].y (mF h m q l[i]).1=haveV h m l[i]->slotsV h m a (l.take (i+1))=some (mF h m q l[i]))/\(dO l[i].y (mF h m q l[i]).1≠haveV h m l[i]->slotsV h m a l=none):=by
 have e:l.take (i+1)=l.take i++[l[i]]:=List.take_succ_eq_append_getElem d;refine ⟨λb=>?_,λb=>?_⟩
 .rw [e,AD,c];simp [b]
 .have hn:slotsV h m a (l.take (i+1))=none:=by rw [e,AD,c];simp [b]
  have:=F6 h m _ (l.drop (i+1)) a hn;rw [List.take_append_drop] at this;exact this
def eZ (p:Pattern)(h:Host)(m:Part)(vs:V2):V2 × Int :=
 match slotsV h m (vs++List.replicate (p.vars.toNat - vs.length) 0,List.replicate vs.length true++List.replicate (p.vars.toNat - vs.length) false) p.l with
 | none=>([],11)
 | some q=>if p.G.all (λx=>BT x q.1)=true then (q.1,0) else ([],16)
structure Mat where
 m:Part
 vars:V2
def Mat.c (x:Mat):UN:=[dLI x.m.h,dLI x.m.i,dLI x.vars]
def Mat.d (x:Mat):D:=.agg x.c
@[go_sem] theorem Mat.Q (x:Mat):D.L x.c=true:=by simp [Mat.c,D.L,rA]
@[go_sem] theorem aiB (l:List Mat):D.R (l.map Mat.c)=true:=d9 _ Mat.Q l
def En (l:List Part):List Part × Int:=if 5000<(l.take 5001).length then ([],3) else (l.take 5001,0)
theorem UX (l:List Part):En l=if 5000<l.length then ([],3) else (l,0):=by
 unfold En;by_cases h:5000<l.length
 .rw [if_pos ie,if_pos h]
 .rw [if_neg ie,if_neg h,aG aD]
def kC (t:Types)(p g:Graph)(inj:Bool):List Part × Int:=if eH t p g≠0 then ([],eH t p g) else En (yU ⟨t,p,g,List.replicate p.h.length (-1),List.replicate p.i.length (-1),inj⟩)
def DU (n:Int)(l:V2)(i:Nat):Int:=if l[i]?.getD 0 < -1\/n<=l[i]?.getD 0 then 6 else 0
def oX (l:V2)(n:Int):Int:=bW (DU n l) 0 l.length
def pA (t:Types)(p g:Graph)(q:Part)(inj:Bool):List Part × Int :=
 if eH t p g≠0 then ([],eH t p g)
 else if q.h.length≠p.h.length\/q.i.length≠p.i.length then ([],20)
 else if oX q.h g.h.length≠0 then ([],oX q.h g.h.length)
 else if oX q.i g.i.length≠0 then ([],oX q.i g.i.length)
 else En (yU ⟨t,p,g,q.h,q.i,inj⟩)
def AT (n:Nat)(at_ im:V2):V2:=(List.range at_.length).foldl (λacc i=>acc.set (at_[i]?.getD 0).toNat (im[i]?.getD 0)) (List.replicate n (-1))
def qR (c:Part)(q:Pattern)(m:Part):Part:=⟨AT q.j.h.length c.h m.h,AT q.j.i.length c.i m.i⟩
def tI (q:Pattern)(h:Host)(vars:V2)(l:List Part):List Mat:=l.filterMap λx=>if (eZ q h x vars).2=0 then some ⟨x,(eZ q h x vars).1⟩ else none
def At (t:Types)(c:Part)(q:Pattern)(h:Host)(m:Mat)(inj:Bool):List Mat × Int :=
 if (pA t q.j h.j (qR c q m.m) inj).2≠0 then ([],(pA t q.j h.j (qR c q m.m) inj).2)
 else (tI q h m.vars (pA t q.j h.j (qR c q m.m) inj).1,0)
/-! ### conditions: the first witness -/
inductive Prf where
 | mk (choice:Int) (m:Mat) (kids:List Prf)
mutual
def Prf.c:Prf→UN
 | .mk ch m l=>[dI ch,dLI m.m.h,dLI m.m.i,dLI m.vars,.list (Prf.cs l)]
def Prf.cs:List Prf→UE
 | []=>[]
 | p :: l=>p.c :: Prf.cs l
end
theorem Prf.cq (l:List Prf):Prf.cs l=l.map Prf.c:=by
 induction l with
 | nil=>simp [Prf.cs]
 | cons a l ih=>simp [Prf.cs,ih]
theorem Prf.A (a:Int)(m:Mat)(l:List Prf):(Prf.mk a m l).c=[dI a,dLI m.m.h,dLI m.m.i,dLI m.vars,.list (l.map Prf.c)]:=by simp [Prf.c,Prf.cq]
mutual
theorem Prf.Q:∀ x:Prf,D.L x.c=true
 | .mk ch m l=>by
  have:=Prf.ea l;simp [Prf.c,D.L,D.Q,dI,rA,this]
theorem Prf.ea:∀ l:List Prf,D.R (Prf.cs l)=true
 | []=>by simp [Prf.cs,D.R]
 | c :: l=>by simp [Prf.cs,D.R,Prf.Q c,Prf.ea l]
end
attribute [go_sem] Prf.Q
@[go_sem] theorem ahV (l:List Prf):D.R (l.map Prf.c)=true:=by rw [<- Prf.cq];exact Prf.ea l
mutual
theorem ac7:∀ x:Prf,iI x.c=x.c
 | .mk ch m l=>by
  have:=Pa l;simp [Prf.c,iI,mK,dI,dLI,eQ,this]
theorem Pa:∀ l:List Prf,eW (Prf.cs l)=Prf.cs l
 | []=>by simp [Prf.cs,eW]
 | c :: l=>by simp [Prf.cs,eW,ac7 c,Pa l]
end
theorem gQ (l:List Prf):eW (l.map Prf.c)=l.map Prf.c:=by rw [<- Prf.cq];exact Pa l
def jQ:Mat:=⟨⟨[],[]⟩,[]⟩
def kP:Prf:=.mk 0 jQ []
def Zx (e:Int):Int:=if e=0 then 10 else if e=10 then 0 else e
def O4:List (Prf × Int)->List Prf->Prf × Int
 | [],acc=>(.mk 0 jQ acc,0)
 | (p,e) :: l,acc=>if e≠0 then (kP,e) else O4 l (acc++[p])
def Zq:List (Prf × Int)->Nat->Prf × Int
 | [],_=>(kP,10)
 | (p,e) :: l,i=>if e≠10 then (.mk i jQ [p],e) else Zq l (i+1)
def ZM:List (Mat × (Prf × Int))->Prf × Int
 | []=>(kP,10)
 | (m,(p,e)) :: l=>if e≠10 then (.mk 0 m [p],e) else ZM l
def Rm (fs:List (Mat->Prf × Int)):Mat->Prf × Int:=fs.head?.getD λ_=>(kP,0)
mutual
def qE (t:Types)(h:Host)(inj:Bool):Cond→Mat→Prf × Int
 | .mk k l mp q=>fun m =>
  if k=2 then (kP,Zx (Rm (FZ t h inj l) m).2)
  else if k=3 then O4 ((FZ t h inj l).map fun f=>f m) []
  else if k=4 then Zq ((FZ t h inj l).map fun f=>f m) 0
  else if k=5 then (if (At t mp q h m inj).2≠0 then (kP,(At t mp q h m inj).2) else ZM ((At t mp q h m inj).1.map fun x=>(x,Rm (FZ t h inj l) x)))
  else (kP,0)
def FZ (t:Types)(h:Host)(inj:Bool):List Cond→List (Mat→Prf × Int)
 | []=>[]
 | c :: l=>qE t h inj c :: FZ t h inj l
end
theorem W6 (t:Types)(h:Host)(inj:Bool)(l:List Cond):FZ t h inj l=l.map (qE t h inj):=by
 induction l with
 | nil=>simp [FZ]
 | cons a l ih=>simp [FZ,ih]
theorem Dh (t:Types)(h:Host)(inj:Bool)(c:Cond)(m:Mat):qE t h inj c m =
  if c.D=2 then (kP,Zx (Rm (c.u.map (qE t h inj)) m).2)
  else if c.D=3 then O4 (c.u.map λk=>qE t h inj k m) []
  else if c.D=4 then Zq (c.u.map λk=>qE t h inj k m) 0
  else if c.D=5 then (if (At t c.map c.o h m inj).2≠0 then (kP,(At t c.map c.o h m inj).2) else ZM ((At t c.map c.o h m inj).1.map λx=>(x,Rm (c.u.map (qE t h inj)) x)))
  else (kP,0):=by
 cases c;simp only [qE,W6,Cond.D,Cond.u,Cond.map,Cond.o,FY];rfl
def ND (t:Types)(h:Host)(inj:Bool)(c:Cond)(m:Mat):Int:=(qE t h inj c m).2
def mJ (t:Types)(h:Host)(inj:Bool)(c:Cond)(m:Mat):Bool × Int:=if ND t h inj c m=10 then (false,0) else (decide (ND t h inj c m=0),ND t h inj c m)
/-! ### a step -/
def eG (t:Types)(p:Pattern)(h:Host)(m:Part):V2 × Int :=
 if c9 t p≠0 then ([],c9 t p) else if fG t h≠0 then ([],fG t h) else if checkE t p.j h.j m false≠0 then ([],checkE t p.j h.j m false) else eZ p h m []
def eX (t:Types)(p:Pattern)(h:Host)(inj:Bool):List Mat × Int :=
 if c9 t p≠0 then ([],c9 t p) else if fG t h≠0 then ([],fG t h)
 else if (kC t p.j h.j inj).2≠0 then ([],(kC t p.j h.j inj).2) else (tI p h [] (kC t p.j h.j inj).1,0)
def lD (p g:Graph)(m:Part):Graph:=⟨m.h.map (gN g),p.i⟩
def o7 (t:Types)(r:Rule)(h:Host)(m:Mat):Int :=
 if checkE t r.left.j h.j m.m r.inj≠0 then 1
 else if (eG t r.left h m.m).2≠0 then (eG t r.left h m.m).2
 else if (eG t r.left h m.m).1≠m.vars then 11
 else oZ (lD r.left.j h.j m.m) h.j r.q m.m
def lC (t:Types)(r:Rule)(h:Host)(m:Mat):Int :=
 if o7 t r h m≠0 then o7 t r h m
 else if (mJ t h r.inj r.cond m).2≠0 then (mJ t h r.inj r.cond m).2
 else if (mJ t h r.inj r.cond m).1=false then 16 else 0
def bZ (r:Rule)(h:Host)(m:Mat):Part:=u9 (lD r.left.j h.j m.m) h.j r.q m.m
def g6 (l:V2)(n:Nat)(v:Int):Int:=(List.range n).foldl (λacc (k:Nat)=>if l[k]?.getD (-1)=v then (k:Int) else acc) (-1)
def mS (l:V2)(n:Nat):V2:=(List.range n).map λ(v:Nat)=>g6 l l.length v
def CI (into:V2)(i:Nat):Nat:=((List.range i).filter λ(j:Nat)=>decide (g6 into into.length j<0)).length
def Kl (keep into at_:V2)(remain:Nat)(i:Nat):Int:=if 0<=g6 into into.length i then at_[(keep[(g6 into into.length i).toNat]?.getD 0).toNat]?.getD 0 else ((remain+CI into i:Nat):Int)
def ER (keep into at_:V2)(right remain:Nat):V2:=(List.range right).map (Kl keep into at_ remain)
def o6 (d:V2)(n:Nat):V2:=mS d n
def dK (r:Rule)(h:Host)(m:Mat):Part:=⟨o6 (bZ r h m).h h.j.h.length,o6 (bZ r h m).i h.j.i.length⟩
def qF (l tr:V2):V2:=l.map λk=>tr[k.toNat]?.getD 0
def cT (r:Rule)(h:Host)(m:Mat):Part :=
 ⟨ER r.q.h r.s.h (qF m.m.h (dK r h m).h) r.right.j.h.length (bZ r h m).h.length,ER r.q.i r.s.i (qF m.m.i (dK r h m).i) r.right.j.i.length (bZ r h m).i.length⟩
def iP (t:Types)(k:Int):V2:=(bL t k).map λa=>a.ao
def freshE (c:Part)(y:Edge):Edge:=⟨y.type,c.h[y.w.toNat]?.getD 0,c.h[y.M.toNat]?.getD 0⟩
def j9 (t:Types)(r:Rule)(c:Part)(x:Host):Host :=
 ⟨⟨x.j.h++r.N.map (gN r.right.j),x.j.i++r.ad.map (λk=>freshE c (r.right.j.i[k.toNat]?.getD cH))⟩,x.k++r.N.map (λk=>iP t (gN r.right.j k))⟩
def bT (t:Types)(r:Rule)(h:Host)(m:Mat):Host:=j9 t r (cT r h m) ⟨cJ h.j (bZ r h m),(bZ r h m).h.map λk=>h.k[k.toNat]?.getD []⟩
def fX (c:Part)(s:Slot):Nat:=(c.h[s.node.toNat]?.getD 0).toNat
def C8 (c:Part)(vs:V2)(a b:Slot):Bool:=decide (fX c a=fX c b)&&(decide (a.J=b.J)&&decide (dO a.y vs≠dO b.y vs))
def vA (c:Part)(vs:V2)(l:List Slot):Bool:=(List.range l.length).any λi=>(List.range i).any λk=>match l[k]?,l[i]? with|some a,some b=>C8 c vs a b|_,_=>false
def zE (t:Types)(g:Graph)(c:Part)(vs:V2)(s:Slot):Bool :=
 let a:=(bL t (g.h[fX c s]?.getD 0))[s.J.toNat]?.getD nX
 decide (dO s.y vs<a.ao)||decide (a.az<dO s.y vs)
def sP (t:Types)(g:Graph)(c:Part)(vs:V2)(l:List Slot):Int:=if vA c vs l=true then 11 else if l.any (zE t g c vs)=true then 6 else 0
def uU (c:Part)(vs:V2)(l:List Slot)(vals:Yb):Yb:=l.foldl (λvals s=>vals.set (fX c s) ((vals[fX c s]?.getD []).set s.J.toNat (dO s.y vs))) vals
def bP (t:Types)(r:Rule)(h:Host)(m:Mat):Host:=⟨(bT t r h m).j,uU (cT r h m) m.vars r.right.l (bT t r h m).k⟩
def gM (t:Types)(r:Rule)(h:Host)(m:Mat):Int :=
 if lC t r h m≠0 then lC t r h m
 else if sP t (bT t r h m).j (cT r h m) m.vars r.right.l≠0 then sP t (bT t r h m).j (cT r h m) m.vars r.right.l
 else if 40<(bT t r h m).j.h.length\/80<(bT t r h m).j.i.length then 3 else 0
structure Stp26 where
 x:Rule
 U:Mat
 C:Host
 after:Host
 V:Part
 B:Part
def Stp26.c (s:Stp26):UN:=s.x.c++s.U.c++s.C.c++s.after.c++[dLI s.V.h,dLI s.V.i,dLI s.B.h,dLI s.B.i]
def fW (t:Types)(r:Rule)(h:Host):Int:=if ruleF t r≠0 then ruleF t r else fG t h
def jJ (t:Types)(r:Rule)(h:Host)(m:Mat):Int:=if fW t r h≠0 then fW t r h else gM t r h m
def aP (t:Types)(r:Rule)(h:Host)(m:Mat):Stp26:=⟨r,m,h,bP t r h m,dK r h m,cT r h m⟩
def mU (t:Types)(r:Rule)(h:Host):List Mat × Int :=
 if fW t r h≠0 then ([],fW t r h) else if (eX t r.left h r.inj).2≠0 then ([],(eX t r.left h r.inj).2) else ((eX t r.left h r.inj).1.filter λm=>decide (gM t r h m=0),0)
@[go_sem] theorem adY (l:List Part):D.R (l.map Part.c)=true:=xW l
theorem aeV (t:Types)(p g:Graph)(hG:G17 t p g)(pn pe:V2)(h1:pn.length=p.h.length)(h2:pe.length=p.i.length)(inj:Bool) :
  Pua 256 [t.d,p.d,g.d,.agg [dLI pn,dLI pe],.bool inj,dI 5000] (.list (((yU ⟨t,p,g,pn,pe,inj⟩).take 5001).map Part.c)) :=
 VK ⟨t,p,g,pn,pe,inj⟩ hG h1 h2 5000 aD
theorem Xq (t:Types)(p g:Graph)(hG:G17 t p g)(pn pe:V2)(h1:pn.length=p.h.length)(h2:pe.length=p.i.length)(inj:Bool){L:List Part}(hL:L=(yU ⟨t,p,g,pn,pe,inj⟩).take 5001) :
 Pua 256 [t.d,p.d,g.d,.agg [dLI pn,dLI pe],.bool inj,dI 5000] (.list (L.map Part.c)):=hL ▸ aeV t p g hG pn pe h1 h2 inj
theorem abI (t:Types)(p g:Graph)(b:G17 t p g)(inj:Bool){L:List Part}(a:L=(yU ⟨t,p,g,List.replicate p.h.length (-1),List.replicate p.i.length (-1),inj⟩).take 5001) :
  Pua 256 [t.d,p.d,g.d,.agg [.list (List.replicate p.h.length [D.int .i64 (-1)]),.list (List.replicate p.i.length [D.int .i64 (-1)])],.bool inj,dI 5000] (.list (L.map Part.c)):=by
 have:=Xq t p g b _ _ aE aE inj a;simpa only [dLI,List.map_replicate,cI] using this
theorem VL (t:Types)(i:t.ok)(p g:Graph)(inj:Bool):Pua 167 [t.d,p.d,g.d,.bool inj] (.tup [.list ((kC t p g inj).1.map Part.c),dI (kC t p g inj).2]):=by
 refine Tz.p0 func167 rfl λQ e Y=>?_;refine wv (h:=aB (vY t i p g) wl ?_);refine dR (λb=>?_) λb=>?_
 .have a:kC t p g inj=([],eH t p g):=by unfold kC;rw [if_pos (bY b)]
  exact wv (h:=e _ _ (iq a))
 .have hG:=oB (bY b);have j:=bK hG.gp;obtain ⟨L,f⟩:=c7 ((yU ⟨t,p,g,List.replicate p.h.length (-1),List.replicate p.i.length (-1),inj⟩).take 5001);have a:kC t p g inj=if 5000<L.length then ([],3) else (L,0):=by unfold kC;rw [if_neg (bY b)];unfold En;rw [<- f]
  refine wv (h:=aH (SZ p aD aD) wl ?_);refine wv (h:=aH (abI t p g hG inj f) wl ?_);refine eP (λk=>?_) λk=>?_
  .rw [if_pos aD] at a;exact wv (h:=e _ _ (iq a))
  .rw [if_neg aD] at a;exact wv (h:=e _ _ (iq a))
def DN (l:V2)(xA n:Int):Int:=if (l.length:Int)≠xA then 20 else oX l n
theorem DH (l:V2)(xA n:Int):Pua 411 [dLI l,dI xA,dI n] (dI (DN l xA n)):=by
 refine Tz.p0 func411 rfl λQ d Y=>?_;refine eP (λk=>?_) λk=>?_
 .have hP:DN l xA n=20:=by unfold DN;rw [if_pos aD]
  exact wv (h:=d _ _ (iq hP))
 .have hP:DN l xA n=oX l n:=by unfold DN;rw [if_neg aD]
  refine wv (h:=bA (λi e H=>(e 0=dLI l/\e 2=dI n/\e 7=dI i)/\(i<=l.length)/\(bW (DU n l) i (l.length - i)=oX l n)) (λi=>l.length - i) 0 ⟨wg,wi,(by rfl)⟩ λp f i e H c=>?_);obtain ⟨m,o,g⟩:=c;have Y:=wa Y m;refine wv (h:=?_);repeat first|intro _|refine ⟨iS,?_⟩
  refine wq (λa=>?_) λa=>?_
  .have hst:=fR (DU n l) a;rw [g] at hst;have b:DU n l i=if l[i] < -1\/n<=l[i] then 6 else 0:=by simp only [DU,aA a,Option.getD_some]
   have Y:=xa1 Y a (aA a);refine eP (λj=>?_) λj=>?_
   .rw [if_pos aD] at b;rw [b,if_pos aD] at hst;exact wv (h:=d _ _ (iu hP hst))
   .rw [if_neg aD] at b;rw [b,if_neg aD] at hst;exact wo (h:=wx f (i+1) ⟨wg,wj,(by exact hst.symm)⟩)
  .have hZ:oX l n=0:=by rw [<- g,(aD:l.length - i=0)];rfl
   exact wv (h:=d _ _ (iu hP hZ))
theorem Og (t:Types)(n:t.ok)(p g:Graph)(q:Part)(inj:Bool):Pua 386 [t.d,p.d,g.d,q.d,.bool inj] (.tup [.list ((pA t p g q inj).1.map Part.c),dI (pA t p g q inj).2]):=by
 refine Tz.p0 func386 rfl λQ j Y=>?_;refine wv (h:=aB (vY t n p g) wl ?_);refine dR (λf=>?_) λf=>?_
 .have a:pA t p g q inj=([],eH t p g):=by unfold pA;rw [if_pos (bY f)]
  exact wv (h:=j _ _ (iq a))
 .have hG:=oB (bY f);refine eP (λo=>?_) λo=>?_
  .have a:pA t p g q inj=([],20):=by unfold pA;rw [if_neg (bY f),if_pos aD]
   exact wv (h:=j _ _ (iq a))
  .have hq:q.h.length=p.h.length/\q.i.length=p.i.length:=aD;have e:DN q.h p.h.length g.h.length=oX q.h g.h.length:=by unfold DN;rw [if_neg aD]
   have b:DN q.i p.i.length g.i.length=oX q.i g.i.length:=by unfold DN;rw [if_neg aD]
   refine wo (h:=aB (DH q.h p.h.length g.h.length) wl ?_);refine eP (λk=>?_) λk=>?_
   .have a:pA t p g q inj=([],oX q.h g.h.length):=by unfold pA;rw [if_neg (bY f),if_neg aD,if_pos (by rw [<- e];exact k)]
    exact wv (h:=j _ _ (iu a e))
   .have h7':oX q.h g.h.length=0:=by rw [<- e];exact k
    refine wo (h:=aB (DH q.i p.i.length g.i.length) wl ?_);refine eP (λi=>?_) λi=>?_
    .have a:pA t p g q inj=([],oX q.i g.i.length):=by unfold pA;rw [if_neg (bY f),if_neg aD,if_neg aD,if_pos (by rw [<- b];exact i)]
     exact wv (h:=j _ _ (iu a b))
    .have h10':oX q.i g.i.length=0:=by rw [<- b];exact i
     obtain ⟨L,m⟩:=c7 ((yU ⟨t,p,g,q.h,q.i,inj⟩).take 5001);have a:pA t p g q inj=if 5000<L.length then ([],3) else (L,0):=by unfold pA;rw [if_neg (bY f),if_neg aD,if_neg aD,if_neg aD];unfold En;rw [<- m]
     refine wv (h:=aB (Xq t p g hG q.h q.i hq.1 hq.2 inj m) wl ?_);refine eP (λl=>?_) λl=>?_
     .rw [if_pos aD] at a;exact wv (h:=j _ _ (iq a))
     .rw [if_neg aD] at a;exact wv (h:=j _ _ (iq a))
/-! ### the instance of a pattern -/
def JK (g:Graph)(ms ns:V2)(i:Nat):V2:=(List.range i).foldl (λacc k=>acc.set k (gN g (ms[k]?.getD 0))) ns
theorem A6 (g:Graph)(ms ns:V2):∀ i,(JK g ms ns i).length=ns.length
 | 0=>rfl
 | i+1=>by unfold JK;rw [fA,f9];exact A6 g ms ns i
theorem MR (g:Graph)(a ns:V2)(i:Nat):JK g a ns (i+1)=(JK g a ns i).set i (gN g (a[i]?.getD 0)):=by unfold JK;rw [fA]
theorem Rh (g:Graph)(ms ns:V2)(k:Nat)(hk:k<ns.length):∀ i,(JK g ms ns i)[k]?=if k<i then some (gN g (ms[k]?.getD 0)) else ns[k]?
 | 0=>by simp [JK]
 | i+1=>by
  rw [MR,dL,A6,Rh g ms ns k hk i];by_cases h:i=k
  .subst h;simp [hk]
  .rw [if_neg h];by_cases h2:k<i
   .rw [if_pos h2,if_pos aD]
   .rw [if_neg h2,if_neg aD]
theorem X5 {g:Graph}{a ns:V2}(h:a.length=ns.length):JK g a ns ns.length=a.map (gN g):=by
 apply gA;intro k;by_cases b:k<ns.length
 .rw [Rh g a ns k b,if_pos b,aN,aA aD];rfl
 .rw [b9 (by rw [A6];omega),b9 ie]
def BV (t:Types)(p g:Graph)(m:Part):Graph:=if checkE t p g m false=0 then lD p g m else ⟨[],[]⟩
theorem BC {t:Types}{p g:Graph}{m:Part}{inj:Bool}(h:matchE t p g m inj=0) :
  (m.h.length=p.h.length/\m.i.length=p.i.length)/\(∀ x∈m.h,0<=x/\x<g.h.length)/\(∀ x∈m.i,0<=x/\x<g.i.length):=by
 unfold matchE at h;split at h
 .cases h
 .rename_i h1;split at h
  .exact absurd h ic
  .rename_i h2;split at h
   .exact absurd h ic
   .rename_i h3;refine ⟨aD,λx a=>?_,λx a=>?_⟩
    .obtain ⟨k,b,rfl⟩:=aO a;have:=eU _ _ (bY h2) k (eL _) aD;unfold mNE at this;rw [aA b,Option.getD_some] at this;split at this
     .cases this
     .omega
    .obtain ⟨k,b,rfl⟩:=aO a;have:=eU _ _ (bY h3) k (eL _) aD;unfold mapEE at this;rw [aA b,Option.getD_some] at this;split at this
     .cases this
     .omega
theorem oS {t:Types}{p g:Graph}{m:Part}{inj:Bool}(h:checkE t p g m inj=0):G17 t p g/\matchE t p g m inj=0:=by
 unfold checkE at h;split at h
 .exact absurd h ic
 .rename_i h1;exact ⟨oB (bY h1),h⟩
theorem IQ (t:Types)(R:t.ok)(p g:Graph)(m:Part):Pua 171 [t.d,p.d,g.d,m.d] (.tup [(BV t p g m).d,dI (checkE t p g m false)]):=by
 refine Tz.pK ⟨λt=>t==8||t==11,λ_=>[]⟩ func171 rfl (λQ M=>?_);have Y:=trivial;refine wv (h:=aB (AN t R p g m false) wl ?_);refine dR (λu=>?_) λu=>?_
 .have I:BV t p g m=⟨[],[]⟩:=by unfold BV;rw [if_neg (bY u)]
  exact wv (h:=M _ _ (iq I))
 .obtain ⟨N,hM⟩:=oS (bY u);obtain ⟨⟨r,X⟩,z,U⟩:=BC hM;have W:=bK N.gp;have V:=bK N.gg;have I:BV t p g m=lD p g m:=by unfold BV;rw [if_pos (bY u)]
  refine wv (h:=?_);unfold fT;refine pG p aD aD _ _ (λa b j ha hb a2 a1 Z E D F S=>?_);have a4:(0:Nat)<j.next:=aD;have a3:a≠0:=by simp [go_sem] at ha;omega
  have a0:b≠0:=by simp [go_sem] at hb;omega
  have s:=F 0 eq;simp [go_sem] at s;have P:=Sk j.next;have J:=xa1 (bS (aD:a<j.next)) (bS (aD:b<j.next)) (bS (aD:0<j.next));have L:=xa1 (dJ (aD:0≠b)) (dJ (aD:0≠a)) (dJ (aD:b≠a));have Y:=xa5 Y J L E D s P;refine wv (h:=bA (λi e H=>∃ c:Nat,(e 4=.adr t.c/\e 5=.adr p.c/\e 6=.adr g.c/\e 7=.adr m.c/\e 8=.ptr 0 1 0 0/\e 11=.ptr c 1 0 0/\e 12=dI i)/\(H.get 0=some ⟨29,2,[[.nil,.nil]],false⟩)/\(0<H.next)/\(H.get c=some ⟨29,2,[[.own a p.h.length,.own b p.i.length]],false⟩)/\(c<H.next)/\(H.get a=some ⟨3,1,(JK g m.h p.h i).map cI,false⟩)/\(a<H.next)/\(H.get b=some ⟨145,3,p.i.map Edge.c,false⟩)/\(b<H.next)/\(i<=p.h.length)/\(a<c/\b<c)/\((JK g m.h p.h i).length=p.h.length)) (λi=>p.h.length - i) 0 ⟨j.next,wg,wn,wn,wn,wn,(by simp [go_sem,Y,JK]),wn,wn,wn,wi,aD,(by exact A6 _ _ _ _)⟩ λI0 G i e H A=>?_);obtain ⟨c,E0,y,o,v,k,x,n,w,l,hi,hc,q⟩:=A;have K:=xa4 (dJ (aD:0≠c)) (dJ (aD:0≠b)) (dJ (aD:0≠a)) (dJ (aD:c≠b)) (dJ (aD:c≠a)) (dJ (aD:b≠a));have Y:=xb0 Y E0 y (bS o) v (bS k) x (bS n) w (bS l) q K;refine iY (λO=>?_) λO=>?_
  .have him:i<m.h.length:=aD;have T:=z _ (aC him);have f:m.h[i].toNat<g.h.length:=aD;have C:gN g (m.h[i]?.getD 0)=g.h[m.h[i].toNat]:=by rw [aA him,Option.getD_some];simp [gN,aA f]
   have B:gN g m.h[i]=g.h[m.h[i].toNat]:=by simp [gN,aA f]
   have Y:=xa2 Y O (aA him) (aA f);exact wp (h:=wx G (i+1) ⟨c,wg,wn,wn,wn,wn,(by simp [go_sem,Y,MR,cW,C,B,cI]),wn,wn,wn,wj,aD,(by exact A6 _ _ _ _)⟩)
  .have hIe:i=p.h.length:=aD;have hE:=X5 (g:=g) r;rw [hIe] at q;exact wv (h:=M _ _ (by simp [go_sem,Y,I,lD,Graph.d,Graph.c,hIe,hE,dLI,r,u]))
end Go.Abs
end
section
namespace Go.Abs
theorem RepV.he {M:Nat->Prop}{σ:Nat->Option Ow}{N:Nat->Prop}{w:World}{m:Nat->Prop}{σ':Nat->Option Ow}{l:Nat->Prop}{w':World}{v:Value}{d:D}(h:RepV M σ N w v d) :
  ∀ v',RepV m σ' l w' v' d->RepV M σ (λi=>N i/\l i) w v d:=by
 induction h with
 | int=>exact λ_ _=>.int _ _
 | bool=>exact λ_ _=>.bool _
 | str=>exact λ_ _=>.str _
 | agg vs ds hl h1 hr ih =>
  intro v' b;cases b with
  | agg vs' _ hl' h1' hr' =>
   exact .agg vs ds hl h1 λj u x c a=>by
    have e:j<vs'.length:=by rw [hl'];exact (aQ.1 a).1
    exact ih j u x c a vs'[j] (hr' j _ x (aA e) a)
 | tup vs ds hl hr ih =>
  intro v' b;cases b with
  | tup vs' _ hl' hr' =>
   exact .tup vs ds hl λj u x c a=>by
    have e:j<vs'.length:=by rw [hl'];exact (aQ.1 a).1
    exact ih j u x c a vs'[j] (hr' j _ x (aA e) a)
 | nil=>exact λ_ _=>.nil
 | listN=>exact λ_ _=>.listN
 | list ad cap sz xs es hc hm hsz hl h1 hcell hr ih =>
  intro v' b;cases b with
  | listN=>exact .list ad cap sz xs [] hc hm hsz hl h1 hcell λj u x c a=>by simp at a
  | list ad' cap' sz' xs' _ hc' hm' hsz' hl' h1' hcell' hr' =>
   exact .list ad cap sz xs es hc hm hsz hl h1 hcell λj u x c a=>by
    have e:j<xs'.length:=by rw [hl'];exact (aQ.1 a).1
    exact ih j u x c a xs'[j] (hr' j _ x (aA e) a)
 | adr ad xs ds hl h1 hcell hr ih =>
  intro v' b;cases b with
  | adr ad' xs' _ hl' h1' hcell' hr' =>
   exact .adr ad xs ds hl h1 hcell λj u x c a=>by
    have e:j<xs'.length:=by rw [hl'];exact (aQ.1 a).1
    exact ih j u x c a xs'[j] (hr' j _ x (aA e) a)
 | ne ad cap hm=>exact λ_ _=>.ne ad cap hm
 | nilp=>exact λ_ _=>.nilp
 | ptr v id ver i off hN h1 h =>
  intro v' b;cases b with
  | ptr _ _ _ _ _ hN' _ _=>exact .ptr v id ver i off ⟨hN,hN'⟩ h1 h
 | own v id n hN h1 h =>
  intro v' b;cases b with
  | own _ _ _ hN' _ _=>exact .own v id n ⟨hN,hN'⟩ h1 h
 | win v id ver lo hi hN h1 hlh h =>
  intro v' b;cases b with
  | win _ _ _ _ _ hN' _ _ _=>exact .win v id ver lo hi ⟨hN,hN'⟩ h1 hlh h
 | fn f vs ds hl hr ih =>
  intro v' b;cases b with
  | fn _ vs' _ hl' hr' =>
   exact .fn f vs ds hl λj u x c a=>by
    have e:j<vs'.length:=by rw [hl'];exact (aQ.1 a).1
    exact ih j u x c a vs'[j] (hr' j _ x (aA e) a)
 | nilf=>exact λ_ _=>.nilf
 | opt v g d hf h ih =>
  intro v' b;cases b with
  | opt _ _ _ hf' h''=>exact .opt v g d hf λk=>ih k v' (h'' k)
 | cst v=>exact λ_ _=>.cst v
 | junk v=>exact λ_ _=>.junk v
def CE (τ:Nat->Nat):D->D
 | .own id n=>.own (τ id) n
 | d=>d
def okc (A:Nat->Prop):D->Prop
 | .own id _=>A id
 | d=>d.Q=true
def Xv (τ:Nat->Nat):D->D
 | .agg cs=>.agg (cs.map (CE τ))
 | d=>CE τ d
def okC (A:Nat->Prop):D->Prop
 | .agg cs=>∀ c∈cs,okc A c
 | d=>okc A d
theorem RepV.dz {M f:Nat->Prop}{σ1 σE:Nat->Option Ow}{q A:Nat->Prop}{w:World}{τ:Nat->Nat}{v:Value}{d:D}(h:RepV M σ1 q w v (CE τ d))(a:okc A d)(i:∀ j,A j->σE j=σ1 (τ j))(p:∀ b,¬ M b->¬ f b):RepV f σE A w v d:=by
 by_cases c:∃ id n,d=.own id n
 .obtain ⟨id,n,rfl⟩:=c;cases h with
  | own _ _ _ hN h1 h=>exact .own v id n a h1 λo l=>h o (by rw [<- i id a];exact l)
 .have e:CE τ d=d:=by cases d<;>first|rfl|exact absurd ⟨_,_,rfl⟩ c
  have m:d.Q=true:=by cases d<;>first|exact a|exact absurd ⟨_,_,rfl⟩ c
  rw [e] at h;exact h.bt (λr u k g=>⟨p _ k,g⟩) m
theorem RepV.ff {M l:Nat->Prop}{σ1 σE:Nat->Option Ow}{o A:Nat->Prop}{w:World}{τ:Nat->Nat}{v:Value}{d:D}(h:RepV M σ1 o w v (Xv τ d))(a:okC A d)(i:∀ j,A j->σE j=σ1 (τ j))(k:∀ b,¬ M b->¬ l b):RepV l σE A w v d:=by
 by_cases c:∃ f,d=.agg f
 .obtain ⟨f,rfl⟩:=c;cases h with
  | agg vs _ hl h1 hr =>
   exact .agg vs f (bY hl) h1 λj u x m g=>(hr j u (CE τ x) m (by rw [aN,g];rfl)).dz (a x (aL g)) i k
 .have e:Xv τ d=CE τ d:=by cases d<;>first|rfl|exact absurd ⟨_,rfl⟩ c
  have n:okC A d=okc A d:=by cases d<;>first|rfl|exact absurd ⟨_,rfl⟩ c
  rw [e] at h;rw [n] at a;exact h.dz a i k
structure Exact (H H1 E:AHeap) (τ:Nat->Nat):Prop where
 nx:∀ j,E.F j->j<E.next
 inj:∀ i j,E.F i->E.F j->τ i=τ j->i=j
 bx:∀ j,H.F j->E.F j/\τ j=j
 hj:∀ j,¬ E.F j->E.get j=none
 hv:∀ j k,E.get j=some k->(H.F j/\H.get j=some k/\H1.get j=some k) \/
  (∃ k0,H1.get (τ j)=some k0/\k0.ty=k.ty/\k0.Y=k.Y/\k0.fz=k.fz/\k0.P=k.P.map (·.map (CE τ))/\∀ c∈k.P,∀ y∈c,okc E.F y)
theorem ACalls.exact {P:Program}{f:FuncId}{args:UN}{H E:AHeap}{r:D}{Q:D→AHeap→Prop}(h:ACalls P f args H Q)
  (hQ:(∀ j,H.F j→j<H.next)→(∀ j,¬ H.F j→H.get j=none)→∀ d H1,Q d H1→∃ τ,Exact H H1 E τ∧d=Xv τ r∧okC E.F r):ACalls P f args H fun d H1=>d=r∧H1=E :=
 ⟨h.1,fun M0 σ w vals hR ha=>(h.2 M0 σ w vals hR ha).mono fun e w' ⟨v,d,H1,σ1,he,hR1,hv,hst,hk,hq⟩=>by
  obtain ⟨τ,X,rfl,hok⟩:=hQ hR.ce (fun j hj=>(hR.cm j hj).2) d H1 hq
  classical
  obtain ⟨σE,hσ⟩:∃ σE:Nat→Option Ow,∀ j,σE j=if E.F j then σ1 (τ j) else none:=⟨fun j=>if E.F j then σ1 (τ j) else none,fun _=>rfl⟩
  have hs:∀ j,E.F j→σE j=σ1 (τ j):=fun j hj=>by rw [hσ,if_pos hj]
  have hsn:∀ j,¬ E.F j→σE j=none:=fun j hj=>by rw [hσ,if_neg hj]
  have hal:∀ j o,σE j=some o→E.F j:=fun j o ho=>aY fun hn=>by rw [hsn j hn] at ho;cases ho
  have halg:∀ j k,E.get j=some k→E.F j:=fun j k ho=>aY fun hn=>by rw [X.hj j hn] at ho;cases ho
  have hmut:∀ b,¬ dV M0 H1 σ1 b→¬ dV M0 E σE b:=by
   rintro b hm (h0|⟨j,k,o,hk',hf,ho,hb⟩)
   ·exact hm (.inl h0)
   ·rw [hs j (halg j k hk')] at ho
    rcases X.hv j k hk' with ⟨h1,h2,h3⟩|⟨k0,h1,h2,h3,h4,_⟩
    ·rw [(X.bx j h1).2] at ho
     exact hm (.inr ⟨j,k,o,h3,hf,ho,hb⟩)
    ·exact hm (.inr ⟨τ j,k0,o,h1,h4.trans hf,ho,hb⟩)
  have hkE:Keeps (dV M0 H σ) σ H.F w (dV M0 E σE) σE E.F w':=by
   refine ⟨fun ad u hm hu=>?_,fun id o' hid ho'=>?_,fun id hid=>(X.bx id hid).1⟩
   ·obtain ⟨a1,a2⟩:=hk.cell ad u hm hu;exact ⟨hmut _ a1,a2⟩
   ·rw [hs id (X.bx id hid).1,(X.bx id hid).2] at ho';exact hk.own id o' hid ho'
  have hkS:Keeps (dV M0 H1 σ1) σ1 (fun i=>H1.F i∧H.F i) w' (dV M0 E σE) σE E.F w':=by
   refine ⟨fun ad u hm hu=>⟨hmut _ hm,hu⟩,fun id o' hid ho'=>?_,fun id hid=>(X.bx id hid.2).1⟩;rw [hs id (X.bx id hid.2).1,(X.bx id hid.2).2] at ho';exact ⟨o',ho',.inl rfl⟩
  have hRE:Rel M0 E σE w':=by
   refine ⟨fun j hj=>⟨hsn j hj,X.hj j hj⟩,X.nx,fun j k hk'=>?_,fun i j o o' b hi hj hb hb'=>?_,fun i o b hi hb=>?_,hR1.m0⟩
   ·have hj:=halg j k hk'
    rcases X.hv j k hk' with ⟨h1,h2,h3⟩|⟨k0,h1,h2,h3,h4,h5,h6⟩
    ·obtain ⟨o,ho,l⟩:=hR1.am j k h3
     obtain ⟨o0,ho0,l0⟩:=hR.am j k h2;obtain ⟨xs,a1,a2,a3⟩:=l.row;obtain ⟨ys,b1,b2,b3⟩:=l0.row;refine ⟨o,by rw [hs j hj,(X.bx j h1).2];exact ho,l.ah,l.ty,l.Y,l.H,xs,a1,a2,a3.len,fun q u d hu hd=>?_⟩;have hq':q<ys.length:=by rw [b3.len];exact (aQ.1 hd).1
     exact ((a3.Z q u d hu hd).he _ (b3.Z q ys[q] d (aA hq') hd)).q hkS
    ·obtain ⟨o,ho,l⟩:=hR1.am (τ j) k0 h1
     obtain ⟨xs,a1,a2,a3⟩:=l.row;have hlen:k0.P.length=k.P.length:=by rw [h5,aR]
     have hfl:k0.P.flatten=k.P.flatten.map (CE τ):=by rw [h5];exact List.map_flatten.symm
     refine ⟨o,by rw [hs j hj];exact ho,by rw [l.ah,hlen],by rw [l.ty,h2],by rw [l.Y,h3],fun c hc=>?_,xs,by rw [← h2,← hlen];exact a1,a2,by rw [a3.len,hfl,aR],fun q u d hu hd=>?_⟩
     ·have:=l.H (c.map (CE τ)) (by rw [h5];exact qB hc)
      rwa [aR] at this
     ·have hd2:k0.P.flatten[q]?=some (CE τ d):=by rw [hfl,aN,hd];rfl
      obtain ⟨c,hc,hdc⟩:=j6.1 (aL hd);exact (a3.Z q u _ hu hd2).dz (h6 c hc d hdc) hs hmut
   ·have hi':=hal i o hi
    have hj':=hal j o' hj;rw [hs i hi'] at hi;rw [hs j hj'] at hj;exact X.inj i j hi' hj' (hR1.inj _ _ o o' b hi hj hb hb')
   ·rw [hs i (hal i o hi)] at hi
    exact hR1.lt (τ i) o b hi hb
  refine ⟨v,r,E,σE,he,hRE,hv.ff hok hs hmut,⟨hst.os,hst.tape,hst.output,hst.size,hst.bx,fun i o' b ho hb=>?_⟩,hkE,rfl,rfl⟩;rw [hs i (hal i o' ho)] at ho;exact hst.new (τ i) o' b ho hb⟩
end Go.Abs
end

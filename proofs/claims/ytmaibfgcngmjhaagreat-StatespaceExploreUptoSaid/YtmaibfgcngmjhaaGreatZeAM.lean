/- The search of the reference. · The search of the reference:  -/
import Derived.Test.YtmaibfgcngmjhaaGreatZeAG
import Derived.Test.YtmaibfgcngmjhaaGreatZeAL
import Derived.Test.YtmaibfgcngmjhaaGreatZeAA
import Derived.Test.YtmaibfgcngmjhaaGreatZeAK
set_option linter.unusedVariables false
set_option linter.unusedSimpArgs false
section
set_option maxRecDepth 100000
set_option maxHeartbeats 4000000
open Go Go.Proofs Tryz
namespace Go.Abs
structure G17 (t:Types) (p g:Graph):Prop where
 v:t.vl0
 gp:graphF p=0
 gg:graphF g=0
 tp:∀ a∈p.i,0<=a/\a<t.i.length
 tg:∀ a∈g.i,0<=a/\a<t.i.length
theorem HN {t:Types}{g:Graph}(h:nL t g=true):∀ a∈g.i,0<=a/\a<t.i.length:=λa ha=>by
 simp only [nL,aR,b7,iP,insideF] at h;have:=h.1 a ha;simpa using this
theorem oH {t:Types}{p g:Graph}(h:eZ t p g=0):G17 t p g:=by
 unfold eZ at h;split at h
 .exact absurd h er
 .rename_i h1;split at h
  .exact absurd h er
  .rename_i h2;split at h
   .exact absurd h er
   .rename_i h3;split at h
    .cases h
    .rename_i h4;simp only [cX,b7,not_or,Bool.not_eq_false] at h4;exact ⟨pD (cG h1),by simpa using h2,by simpa using h3,HN h4.1,HN h4.2⟩
def LZ (t:Types)(p g:Graph)(m:Part)(i:Nat):Int :=
 if m.i[i]?.getD 0<0\/(g.i.length:Int)<=m.i[i]?.getD 0 then 6
 else if Ab t (p.i[i]?.getD 0) (g.i[(m.i[i]?.getD 0).toNat]?.getD 0)=true then 0 else 13
def jY (t:Types)(p g:Graph)(m:Part)(inj:Bool):Int :=
 if m.i.length≠p.i.length\/m.j.length≠p.j.length then 20
 else if b6 (LZ t p g m) 0 p.i.length≠0 then b6 (LZ t p g m) 0 p.i.length
 else if b6 (jP p g m) 0 p.j.length≠0 then b6 (jP p g m) 0 p.j.length
 else if inj=true/\(¬ m.i.Nodup\/¬ m.j.Nodup) then 5 else 0
def fX (t:Types)(p g:Graph)(m:Part)(inj:Bool):Int:=if eZ t p g≠0 then eZ t p g else jY t p g m inj
theorem Cu (t:Types)(c:t.vl0)(a b:Int)(f:0<=a)(g:a<t.i.length)(e:0<=b):Pua 137 [t.d,dI a,dI b] (.bool (Ab t b a)):=by
 have:=zR t c b e a.toNat bL;rw [Int.toNat_of_nonneg f] at this;exact this
theorem Po (t:Types)(p g:Graph)(s:G17 t p g)(m:Part)(f:Bool):Pua 272 [t.d,p.d,g.d,m.d,.bool f] (dI (jY t p g m f)):=by
 have T:=bW s.gp;have S:=bW s.gg;have A:=(eI s.gp).2;refine Tz.pK ⟨λt=>t==13||t==14,λr=>match r with|15=>[(0,14),(1,14),(3,14),(4,14),(5,14),(6,14),(7,14),(8,14),(10,14),(11,14),(12,14),(13,14),(0,15),(1,15),(3,15),(4,15),(5,15),(6,15),(7,15),(8,15),(10,15),(11,15),(12,15),(13,15),(14,15),(5,16),(6,16),(7,16),(8,16),(10,16),(11,16),(12,16),(13,16)]|_=>[]⟩ func272 rfl (λQ n=>?_);have Y:=trivial;refine dZ (λV=>?_) λV=>?_
 .have hM:jY t p g m f=20:=by unfold jY;rw [if_pos bL]
  exact wv (h:=n _ _ (eD hM))
 .have hM:jY t p g m f=(if b6 (LZ t p g m) 0 p.i.length≠0 then b6 (LZ t p g m) 0 p.i.length else if b6 (jP p g m) 0 p.j.length≠0 then b6 (jP p g m) 0 p.j.length else if f=true/\(¬ m.i.Nodup\/¬ m.j.Nodup) then 5 else 0):=by unfold jY;rw [if_neg bL]
  have R:m.i.length=p.i.length:=bL;have P:m.j.length=p.j.length:=bL;refine wv (h:=bA (λi e H=>(e 5=.adr t.c/\e 6=.adr p.c/\e 7=.adr g.c/\e 8=.adr m.c/\e 4=.bool f/\e 11=dI i)/\(i<=m.i.length)/\(b6 (LZ t p g m) i (p.i.length - i)=b6 (LZ t p g m) 0 p.i.length)) (λi=>m.i.length - i) 0 ⟨wg,wi,(by rfl)⟩ λI0 G i e H C=>?_);obtain ⟨X,hi,L⟩:=C;have Y:=wa Y X;refine dZ (λy=>?_) λy=>?_
  .have hn:i<p.i.length:=bL;have a:=fG (LZ t p g m) hn;rw [L] at a;have j:LZ t p g m i=(if m.i[i]<0\/(g.i.length:Int)<=m.i[i] then 6 else if Ab t p.i[i] (g.i[m.i[i].toNat]?.getD 0)=true then 0 else 13):=by simp only [LZ,aA y,aA hn,aF]
   have E:=s.tp _ (aC hn);have Y:=xa2 Y y (aA y) (aA hn);refine dZ (λU=>?_) λU=>?_
   .rw [if_pos bL] at j;rw [j,if_pos bL] at a;rw [a,if_pos bL] at hM;exact wv (h:=n _ _ (eD hM))
   .have hkb:m.i[i].toNat<g.i.length:=bL;rw [if_neg bL,aA hkb,aF] at j;have x:=s.tg _ (aC hkb);have Y:=wa Y (aA hkb);refine wo (h:=aJ ((Cu t s.v g.i[m.i[i].toNat] p.i[i] x.1 x.2 E.1)) wl ?_);refine dZ (λI=>?_) λI=>?_
    .rw [if_neg (cG I)] at j;rw [j,if_pos bL] at a;rw [a,if_pos bL] at hM;exact wv (h:=n _ _ (eD hM))
    .rw [if_pos (cG I)] at j;rw [j,if_neg bL] at a;exact wo (h:=wx G (i+1) ⟨wg,wj,(a.symm)⟩)
  .have hN0:b6 (LZ t p g m) 0 p.i.length=0:=by rw [<- L,(bL:p.i.length - i=0)];rfl
   rw [hN0,if_neg bL] at hM;refine wv (h:=bA (λk e H=>(e 5=.adr t.c/\e 6=.adr p.c/\e 7=.adr g.c/\e 8=.adr m.c/\e 4=.bool f/\e 12=dI k)/\(k<=m.j.length)/\(b6 (jP p g m) k (p.j.length - k)=b6 (jP p g m) 0 p.j.length)) (λk=>m.j.length - k) 0 ⟨wg,wi,(by rfl)⟩ λI2 F k e H B=>?_);obtain ⟨W,hk,M⟩:=B;have Y:=wa Y W;refine dZ (λl=>?_) λl=>?_
   .have hn:k<p.j.length:=bL;have a:=fG (jP p g m) hn;rw [M] at a;have Z:=A _ (aC hn);have w:p.j[k].from_.toNat<m.i.length:=bL;have u:p.j[k].L.toNat<m.i.length:=bL;have b:jP p g m k=(if m.j[k]<0\/(g.j.length:Int)<=m.j[k] then 6 else if p.j[k].type≠(g.j[m.j[k].toNat]?.getD cK).type then 13 else if m.i[p.j[k].from_.toNat]≠(g.j[m.j[k].toNat]?.getD cK).from_\/m.i[p.j[k].L.toNat]≠(g.j[m.j[k].toNat]?.getD cK).L then 11 else 0):=by
     simp only [jP,aA l,aA hn,aF,aA w,aA u]
    have Y:=xa4 Y l (aA l) (aA hn) (aA w) (aA u);refine dZ (λK=>?_) λK=>?_
    .rw [if_pos bL] at b;rw [b,if_pos bL] at a;rw [a,if_pos bL] at hM;exact wv (h:=n _ _ (eD hM))
    .have hkb:m.j[k].toNat<g.j.length:=bL;rw [if_neg bL,aA hkb,aF] at b;have Y:=wa Y (aA hkb);refine dZ (λq=>?_) λq=>?_
     .rw [if_pos q] at b;rw [b,if_pos bL] at a;rw [a,if_pos bL] at hM;exact wv (h:=n _ _ (eD hM))
     .rw [if_neg (cG q)] at b;refine dZ (λJ=>?_) λJ=>?_
      .rw [if_pos bL] at b;rw [b,if_pos bL] at a;rw [a,if_pos bL] at hM;exact wv (h:=n _ _ (eD hM))
      .rw [if_neg bL] at b;rw [b,if_neg bL] at a;exact wo (h:=wx F (k+1) ⟨wg,wj,(a.symm)⟩)
   .have hE0:b6 (jP p g m) 0 p.j.length=0:=by rw [<- M,(bL:p.j.length - k=0)];rfl
    rw [hE0,if_neg bL] at hM;refine wo (h:=aN (λD=>A2 m.i) (λD=>wl) ?_);refine wo (h:=aN (λD=>A2 m.j) (λD=>wl) ?_);refine dZ (λo=>?_) λo=>?_
    .rw [if_pos (by simpa [qM] using o)] at hM;exact wv (h:=n _ _ (eD hM))
    .rw [if_neg (by simpa [qM] using o)] at hM;exact wv (h:=n _ _ (eD hM))
theorem A3 (t:Types)(e:t.ok)(p g:Graph)(m:Part)(a:Bool):Pua 211 [t.d,p.d,g.d,m.d,.bool a] (dI (fX t p g m a)):=by
 refine Tz.p0 func211 rfl λQ c Y=>?_;refine wv (h:=aB (wB t e p g) wl ?_);refine dD (λb=>?_) λb=>?_
 .exact wv (h:=c _ _ (by simp [go_sem,fX,b]))
 .refine wv (h:=aB (Po t p g (oH (cG b)) m a) wl ?_);exact wv (h:=c _ _ (by simp [go_sem,fX,b]))
/-! ### the search -/
def Srch.cells (S:Srch)(most:Int)(fd:D):Xa2:=[.list (S.t.i.map NodeTy.c),.list (S.t.j.map EdgeTy.c),dLI S.p.i,.list (S.p.j.map Edge.c),dLI S.g.i,.list (S.g.j.map Edge.c),dLI S.pn,dLI S.pe,.bool S.inj,dI most,fd]
theorem Iv (S:Srch)(most:Int)(d:D)(m:d.U=true)(l:Xa0)(n:Int):Pua 371 [.adr (S.cells most d),dLI l,dI n] (.bool (S.inj&&mem l n)):=by
 refine Tz.p0 func371 rfl λQ r _=>?_;have u:∀ b:Bool,D.N (S.cells most d)=true:=λ_=>by simp [go_sem,Srch.cells,m]
 have Y:=@Srch.cells.eq_1;refine wv (h:=bA (λi e H=>(e 0=.adr (S.cells most d)/\e 1=dLI l/\e 2=dI n/\e 7=dI i)/\(i<=l.length)/\(∀ j,j<i->∀ c:j<l.length,l[j]≠n)) (λi=>l.length - i) 0 ⟨wg,wi,(by intro j c;omega)⟩ λx o i e H k=>?_);obtain ⟨v,w,s⟩:=k;have Y:=wa Y v;refine wv (h:=?_);repeat first|intro _|refine ⟨iV,?_⟩
 refine wq (λa=>?_) λa=>?_
 .have hil:i<l.length:=a.1;have Y:=xa1 Y a (aA hil);refine dZ (λq=>?_) λq=>?_
  .have f:mem l n=true:=(mem_iff _ _).2 (q ▸ aC hil);have p:S.inj=true:=a.2;exact wv (h:=r _ _ (fc f p))
  .exact wo (h:=wx o (i+1) ⟨wg,wj,(by intro j c g;rcases bD j i with hji|hji;exact s j hji g;(obtain rfl:j=i:=bL;exact q))⟩)
 .have hR:(S.inj&&mem l n)=false:=by
   cases p:S.inj
   .rfl
   .simp [p] at a;rw [fP,bP];intro f;obtain ⟨j,c,t⟩:=aM ((mem_iff _ _).1 f);exact s j bL c t
  exact wv (h:=r _ _ (eD hR))
theorem DW (a b:Int):(a==b)=decide (a=b):=by rw [bB];simp
theorem BA (f:Nat->Bool)(k:Nat):(List.range (k+1)).any f=((List.range k).any f||f k):=by rw [c6,xV];simp
theorem RS (S:Srch)(K:graphF S.p=0)(O:graphF S.g=0)(most:Int)(w:D)(P:w.U=true)(l:Xa0):Pua 369 [.adr (S.cells most w),dLI l] (.bool (xG S l)):=by
 have z:=(eI K).2;have N:=bW K;have M:=bW O;refine Tz.pK ⟨λt=>t==6||t==9,λ_=>[]⟩ func369 rfl (λQ L=>?_);have Y:=@Srch.cells.eq_1;refine wv (h:=bA (λi e H=>(e 0=.adr (S.cells most w)/\e 1=dLI l/\e 5=dI i)/\(i<=S.p.j.length)/\(∀ j,j<i->CY S l j=true)) (λi=>S.p.j.length - i) 0 ⟨wg,wi,(by intro j B;omega)⟩ λX r i e H E=>?_);obtain ⟨U,V,G⟩:=E;have Y:=wa Y U;refine dZ (λf=>?_) λf=>?_
 .obtain ⟨x,u⟩:=cY (S.p.j[i]);have y:=(z _ (aC f)).2;rw [<- u] at y;have d:CY S l i=(decide ((l.length:Int)<=x.from_)||decide ((l.length:Int)<=x.L)||(List.range S.g.j.length).any (Bn S l i)):=by unfold CY;rw [aA f,aF,<- u]
  have Y:=xa3 Y f (aA f) (Eq.symm u) @Edge.c.eq_1;refine dZ (λJ=>?_) λJ=>?_
  .have hKi:CY S l i=true:=by rw [d];rcases J with h|h<;>simp<;>omega
   exact wo (h:=wx r (i+1) ⟨wg,wj,(by intro j B;rcases bD j i with hji|hji;exact G j hji;(obtain rfl:j=i:=bL;exact hKi))⟩)
  .have hf:x.from_.toNat<l.length:=bL;have o:x.L.toNat<l.length:=bL;have R:∀ k (A:k<S.g.j.length),Bn S l i k=(decide (x.type=S.g.j[k].type)&&(decide (S.g.j[k].from_=l[x.from_.toNat])&&decide (S.g.j[k].L=l[x.L.toNat]))):=λk A=>by
    simp only [Bn,edX,Xf,aA A,aA f,aF,<- u,aA hf,aA o];simp [eq_comm (a:=x.type)]
   have Y:=xa2 Y J (aA hf) (aA o);refine wv (h:=bA (λk e H=>∃ q:Nat,∃ b:Bool,(e 0=.adr (S.cells most w)/\e 1=dLI l/\e 5=dI i/\e 6=.ptr q 1 0 0/\e 7=.bool b/\e 8=dI k)/\(H.get q=some ⟨124,3,[[dI x.type,dI x.from_,dI x.L]],false⟩)/\(q<H.next)/\(k<=S.g.j.length)/\(b=(List.range k).any (Bn S l i))) (λk=>S.g.j.length - k) 0 ⟨H.next,false,wg,wn,wn,wi,(by rfl)⟩ λW I k e H C=>?_);obtain ⟨q,b,T,s,n,A,F⟩:=C;have Y:=xa2 Y T s (bU n);refine dZ (λv=>?_) λv=>?_
   .have hHk:=R k v;have Y:=xa4 Y v (aA v) hHk @DW @Bool.and_assoc;exact wo (h:=wx I (k+1) ⟨q,((b||Bn S l i k)),wg,wn,wn,wj,(by rw [BA,<- F])⟩)
   .refine dZ (λm=>?_) λm=>?_
    .have hR:xG S l=false:=by
      simp only [xG,s8,bN];refine ⟨i,f,?_⟩;rw [d,<- show k=S.g.j.length by omega,<- F];simp [m];omega
     exact wv (h:=L _ _ (eD hR))
    .have hKi:CY S l i=true:=by rw [d,<- show k=S.g.j.length by omega,<- F];simp [m]
     exact wo (h:=wx r (i+1) ⟨wg,wj,(by intro j B;rcases bD j i with hji|hji;exact G j hji;(obtain rfl:j=i:=bL;exact hKi))⟩)
 .have hR:xG S l=true:=by
   simp only [xG,cF,bN];exact λj B=>G j bL
  exact wv (h:=L _ _ (eD hR))
structure SrS (f o:Nat) (S:Srch) (most:Nat) (out:List Part) (H:AHeap):Prop where
 bf:H.get f=some ⟨359,11,[S.cells most (.own o out.length)],false⟩
 bo:H.get o=some ⟨55,2,out.map Part.c,false⟩
 le:out.length<=most+1
@[go_sem] theorem yJ (l:List Part):D.T (l.map Part.c)=true:=dL _ (λp=>by simp [Part.c,D.N,pA]) l
theorem Pp (S:Srch)(hp:graphF S.p=0)(hg:graphF S.g=0)(b3:S.pe.length=S.p.j.length)(most:Nat)(b6:most<=5000)(ns:Xa0)(b5:ns.length=S.p.i.length)(f o:Nat)(hd:f≠o) :
  ∀ (d:Nat) (es:Xa0) (l:List Part) (G:AHeap) (Q:D->AHeap->Prop),es.length+d=S.p.j.length->f<G.next->o<G.next->SrS f o S most l G ->
  (∀ H',SrS f o S most (Kl S (most+1) ns d es l) H'->(∀ j,j≠f->j≠o->j<G.next->H'.get j=G.get j)->G.next<=H'.next->Q (.tup []) H')->ACalls prog 370 [.ptr f 1 0 0,dLI ns,dLI es] G Q:=by
 have b9:=bW hp;have b7:=bW hg;have a3:∀ x∈S.p.j,(0<=x.from_/\x.from_<S.p.i.length)/\(0<=x.L/\x.L<S.p.i.length):=λx hx=>((eI hp).2 x hx).2;intro d;induction d using Nat.strongRecOn with
 | _ d ih =>
 intro es l G Q hk a5 a1 hF hQ;obtain ⟨gf,go,O⟩:=hF;have a6:=hd.symm;have ff:=bU a5;have fo:=bU a1;refine (Tz.cK ⟨λt=>t==7||t==9||t==35||t==38||t==128,λr=>match r with|3=>[(2,5),(3,5),(4,5),(2,7),(3,7),(4,7),(2,8),(3,8),(4,8),(5,8),(7,8),(2,10),(3,10),(4,10),(2,12),(3,12),(4,12)]|_=>[]⟩ func370 rfl ?_);have Y:=xa6 gf go hd a6 ff fo @Part.c.eq_1 @Srch.cells.eq_1;refine jH (λh0=>?_) λh0=>?_
 .have hfull:most+1<=l.length:=bL;refine wv (h:=?_);exact hQ _ (by rw [H5 _ _ _ hfull];exact ⟨gf,go,O⟩) (by intro j _ _ _;rfl) (by first|exact aT _|exact cC _ _)
 .have hnf:¬ most+1<=l.length:=bL;refine jH (λn=>?_) λn=>?_
  .have hk0:d=0:=bL;subst hk0;refine wp (h:=?_);exact hQ _ (by simp only [Kl];rw [if_neg hnf];exact ⟨by simp [go_sem,Y],by simp [go_sem,Y],by simp;omega⟩) (by intro j u n y;simp [go_sem,u,n,bU y]) (by first|exact aT _|(simp [go_sem]<;>omega)|(simp only [go_sem];split<;>omega))
  .obtain ⟨I,rfl⟩:∃ I,d=I+1:=⟨d - 1,bL⟩;have E:es.length<S.p.j.length:=bL;have M:es.length<S.pe.length:=bL;have U:=a3 _ (aC E);have T:S.p.j[es.length].from_.toNat<ns.length:=bL;have P:S.p.j[es.length].L.toNat<ns.length:=bL;have N:∀ j (hj:j<S.g.j.length),TB S ns es j=((decide (S.pe[es.length]<0)||decide (S.pe[es.length]=(j:Int)))&&(!(S.inj&&mem es j)&&(decide (S.p.j[es.length].type=S.g.j[j].type)&&(decide (S.g.j[j].from_=ns[S.p.j[es.length].from_.toNat])&&decide (S.g.j[j].L=ns[S.p.j[es.length].L.toNat]))))):=λj hj=>by
    simp only [TB,Bq,Bn,edX,Xf,aA hj,aA E,aA M,aF,aA T,aA P];simp [eq_comm (a:=S.p.j[es.length].type)]
   have Y:=xa3 Y (aA E) (aA M) (aA T) (aA P);refine wp (h:=bA (λj e H=>∃ v:Nat,∃ s:List Part,(e 0=.ptr f 1 0 0/\e 1=dLI ns/\e 2=dLI es/\e 6=dI es.length/\e 7=.ptr v 1 0 0/\e 8=dI j)/\(H.get f=some ⟨359,11,[S.cells most (.own o s.length)],false⟩)/\(f<H.next)/\(H.get o=some ⟨55,2,s.map Part.c,false⟩)/\(o<H.next)/\(H.get v=some ⟨124,3,[S.p.j[es.length].c],false⟩)/\(v<H.next)/\(v=G.next+10)/\(j<=S.g.j.length)/\(s.length<=most+1)/\(s=(List.range j).foldl (λs k=>if TB S ns es k=true then Kl S (most+1) ns I (es++[(k:Int)]) s else s) l)/\(∀ q,q≠f->q≠o->q<G.next->H.get q=G.get q)/\(G.next+1<=H.next)) (λj=>S.g.j.length - j) 0 ⟨(G.next+10),l,wg,wn,wn,wn,wn,wn,wn,(by rfl),wi,(by exact O),(by rfl),(by intro q u n y;simp [go_sem,u,n,bU y]),eh⟩ λI0 V j e H a4=>?_);obtain ⟨v,s,E0,a0,K,Z,J,F,B,L,hj,m,C,w,b4⟩:=a4;have b1:=xa1 (b8 (bL:v≠o)) (b8 (bL:v≠f)) (b8 (bL:o≠f));have Y:=xa8 Y E0 a0 (bU K) Z (bU J) F (bU B) @Edge.c.eq_1 b1;refine jH (λh6=>?_) λh6=>?_
   .have hEj:=N j h6;have c1:=U.1;have c0:=U.2;have o1:(0<=S.pe[es.length]->S.pe[es.length]=(j:Int))->(S.inj=true->mem es (j:Int)=false)->(S.pe[es.length]<0\/S.pe[es.length]=(j:Int))/\(S.inj=false\/mem es (j:Int)=false):=λa b=>⟨bL,by cases hI:S.inj;exact .inl rfl;exact .inr (b hI)⟩;have o2:(S.pe[es.length]<0\/S.pe[es.length]=(j:Int))->(S.inj=false\/mem es (j:Int)=false)->S.p.j[es.length].type=S.g.j[j].type->0<=S.p.j[es.length].from_/\S.p.j[es.length].from_<(ns.length:Int):=λ_ _ _=>by omega
    have o3:(0<=S.pe[es.length]->S.pe[es.length]=(j:Int))->(S.inj=true->mem es (j:Int)=false)->S.p.j[es.length].type=S.g.j[j].type->((S.pe[es.length]<0\/S.pe[es.length]=(j:Int))/\(S.inj=false\/mem es (j:Int)=false))/\S.p.j[es.length].type=S.g.j[j].type:=λa b c=>⟨o1 a b,c⟩;have o4:(S.pe[es.length]<0\/S.pe[es.length]=(j:Int))->(S.inj=false\/mem es (j:Int)=false)->S.p.j[es.length].type=S.g.j[j].type->S.g.j[j].from_=ns[S.p.j[es.length].from_.toNat]->0<=S.p.j[es.length].L/\S.p.j[es.length].L<(ns.length:Int):=λ_ _ _ _=>by omega
    have o5:(0<=S.pe[es.length]->S.pe[es.length]=(j:Int))->(S.inj=true->mem es (j:Int)=false)->S.p.j[es.length].type=S.g.j[j].type->S.g.j[j].from_=ns[S.p.j[es.length].from_.toNat]->(((S.pe[es.length]<0\/S.pe[es.length]=(j:Int))/\(S.inj=false\/mem es (j:Int)=false))/\S.p.j[es.length].type=S.g.j[j].type)/\S.g.j[j].from_=ns[S.p.j[es.length].from_.toNat]:=λa b c d=>⟨⟨o1 a b,c⟩,d⟩;have Y:=xa1 Y h6 (aA h6);refine wp (h:=xJ (λhg=>Iv S most (.list (s.map Part.c)) (by simp [D.U,yJ]) es j) wrq (λhg=>wl) (λhg=> rfl) rfl wdq ?_);refine jH (λh9=>?_) λh9=>?_
    .have hE:TB S ns es j=false:=by
      rw [hEj,bP];intro hT;simp at hT;obtain ⟨a,b,c,d,e⟩:=hT;rcases h9 with (((h|h)|h)|h)|h
      .omega
      .rcases b with b|b
       .rw [b] at h;cases h.1
       .rw [b] at h;cases h.2
      .exact h c
      .exact h d
      .exact h e
     obtain ⟨A,i⟩:∃ x,x=s:=⟨_,rfl⟩;have Y:=xa2 Y @Part.c.eq_1 @Edge.c.eq_1 i;exact wp (h:=wx V (j+1) ⟨v,A,wg,wn,wn,wn,wn,wn,wn,(by exact L),wj,(by rw [i];first|exact m|exact EY _ _ _ _ _ m|exact EY _ _ _ _ m),(by rw [eP,<- C];first|exact i|(rw [i];first|rw [if_pos hE]|rw [if_neg (by rw [hE];simp)])),(by first|exact z|(intro q u n y;simp [go_sem,u,n,bU (bL:q<H.next)];exact w q u n y)),(by first|omega|(simp [go_sem];omega))⟩)
    .have hE:TB S ns es j=true:=by
      obtain ⟨⟨⟨⟨a,b⟩,c⟩,d⟩,e⟩:=h9;rw [hEj];simp [c,d,e];exact ⟨bL,by cases hI:S.inj;exact .inl rfl;exact .inr (b hI)⟩
     obtain ⟨A,i⟩:∃ x,x=Kl S (most+1) ns I (es++[(j:Int)]) s:=⟨_,rfl⟩;have Y:=xa2 Y @Part.c.eq_1 @Edge.c.eq_1 h9;refine wp (h:=?_);refine MA (args':=[.ptr f 1 0 0,dLI ns,dLI (es++[(j:Int)])]) (by simp [go_sem,Y,dLI]) rfl ?_;unfold dQ;refine ih I bL (es++[(j:Int)]) s _ _ et eq eq ⟨by simp [go_sem,Y],by simp [go_sem,Y],m⟩ (λH3 W R a2=>?_);rw [<- i] at W;obtain ⟨a9,a8,b2⟩:=W;have X:=R v bL bL eq;simp [go_sem,Y] at X;simp [go_sem] at a2;have z:∀ j,j≠f->j≠o->j<G.next->H3.get j=G.get j:=λj u n y=>by
      have e1:=bU (bL:j<H.next);rw [R j u n eq];simp [go_sem,u,n,e1];exact w j u n y
     have b0:=xa1 (bU (bL:f<H3.next)) (bU (bL:o<H3.next)) (bU (bL:v<H3.next));have Y:=xa3 Y a9 a8 X b0;exact wp (h:=wx V (j+1) ⟨v,A,wg,wn,wn,wn,wn,wn,wn,(by exact L),wj,(by rw [i];first|exact m|exact EY _ _ _ _ _ m|exact EY _ _ _ _ m),(by rw [eP,<- C];first|exact i|(rw [i];first|rw [if_pos hE]|rw [if_neg (by rw [hE];simp)])),(by first|exact z|(intro q u n y;simp [go_sem,u,n,bU (bL:q<H.next)];exact w q u n y)),(by first|omega|(simp [go_sem];omega))⟩)
   .have hJ:j=S.g.j.length:=bL;have a7:Kl S (most+1) ns (I+1) es l=s:=by simp only [Kl];rw [if_neg hnf,C,hJ]
    refine wv (h:=?_);exact hQ _ (by rw [a7];exact ⟨by assumption,by assumption,m⟩) w bL
theorem Pn (S:Srch)(w:G17 S.t S.p S.g)(b2:S.pn.length=S.p.i.length)(a0:S.pe.length=S.p.j.length)(most:Nat)(a2:most<=5000)(f o:Nat)(hd:f≠o) :
  ∀ (d:Nat) (ns:Xa0) (i:List Part) (G:AHeap) (Q:D->AHeap->Prop),ns.length+d=S.p.i.length->f<G.next->o<G.next->SrS f o S most i G ->
  (∀ H',SrS f o S most (Ru S (most+1) d ns i) H'->(∀ j,j≠f->j≠o->j<G.next->H'.get j=G.get j)->G.next<=H'.next->Q (.tup []) H')->ACalls prog 325 [.ptr f 1 0 0,dLI ns] G Q:=by
 have b4:=bW w.gp;have b3:=bW w.gg;intro d;induction d using Nat.strongRecOn with
 | _ d ih =>
 intro ns i G Q hk K F hF hQ;obtain ⟨gf,go,I⟩:=hF;have a4:=hd.symm;have ff:=bU K;have fo:=bU F;refine (Tz.cK ⟨λt=>t==97,λ_=>[]⟩ func325 rfl ?_);have Y:=xa6 gf go hd a4 ff fo @Part.c.eq_1 @Srch.cells.eq_1;refine wp (h:=xJ (λJ=>RS S w.gp w.gg most (.list (i.map Part.c)) (by simp [D.U,yJ]) ns) wrq (λJ=>wl) (λJ=> rfl) rfl wdq ?_);refine jH (λh0=>?_) λh0=>?_
 .have hX:Ru S (most+1) d ns i=i:=by
   cases d<;>(simp only [Ru];rw [if_pos];rcases h0 with h|h;exact .inl bL;exact .inr (cG h))
  refine wv (h:=?_);exact hQ _ (by rw [hX];exact ⟨gf,go,I⟩) (by intro j _ _ _;rfl) (by first|exact aT _|exact cC _ _)
 .have hnf:¬ (most+1<=i.length\/xG S ns=false):=by rintro (h|h);(omega);(simp [h] at h0)
  refine jH (λm=>?_) λm=>?_
  .have hk0:d=0:=bL;subst hk0;refine wv (h:=?_);refine QL (args':=[.ptr f 1 0 0,dLI ns,dLI []]) (by simp [go_sem,Y,dLI,U7]) ?_;unfold dQ;refine Pp S w.gp w.gg a0 most a2 ns bL f o hd S.p.j.length [] i _ _ bS (by first|exact K|exact Nat.lt_add_right _ K) (by first|exact F|exact Nat.lt_add_right _ F) ⟨gf,go,I⟩ (λH3 z L y=>?_);refine wv (h:=?_);exact hQ _ (by simp only [Ru];rw [if_neg hnf];exact z) (λj u m A=>L j u m (by first|exact A|exact Nat.lt_add_right _ A)) (by first|exact y|exact dA (cC _ _) y)
  .obtain ⟨N,rfl⟩:∃ N,d=N+1:=⟨d - 1,bL⟩;have M:ns.length<S.p.i.length:=bL;have R:ns.length<S.pn.length:=bL;have a5:=w.tp _ (aC M);have T:∀ j (hj:j<S.g.i.length),LM S ns j=((decide (S.pn[ns.length]<0)||decide (S.pn[ns.length]=(j:Int)))&&(!(S.inj&&mem ns j)&&Ab S.t S.p.i[ns.length] S.g.i[j])):=λj hj=>by
    simp only [LM,Bq,aA hj,aA M,aA R,aF]
   have Y:=xa1 Y (aA M) (aA R);refine wv (h:=bA (λj e H=>∃ n:List Part,(e 0=.ptr f 1 0 0/\e 1=dLI ns/\e 4=dI ns.length/\e 5=dI j)/\(H.get f=some ⟨359,11,[S.cells most (.own o n.length)],false⟩)/\(f<H.next)/\(H.get o=some ⟨55,2,n.map Part.c,false⟩)/\(o<H.next)/\(j<=S.g.i.length)/\(n.length<=most+1)/\(n=(List.range j).foldl (λn k=>if LM S ns k=true then Ru S (most+1) N (ns++[(k:Int)]) n else n) i)/\(∀ q,q≠f->q≠o->q<G.next->H.get q=G.get q)/\(G.next<=H.next)) (λj=>S.g.i.length - j) 0 ⟨i,wg,wn,wn,wn,wn,wi,(by exact I),(by rfl),(by intro q u m A;rfl),eh⟩ λI0 V j e H a3=>?_);obtain ⟨n,E0,Z,P,X,O,hj,r,E,s,a1⟩:=a3;have b0:=b8 (bL:o≠f);have Y:=xa5 Y E0 Z (bU P) X (bU O) b0;refine jH (λW=>?_) λW=>?_
   .have hEj:=T j W;have o1:(0<=S.pn[ns.length]->S.pn[ns.length]=(j:Int))->(S.inj=true->mem ns (j:Int)=false)->(S.pn[ns.length]<0\/S.pn[ns.length]=(j:Int))/\(S.inj=false\/mem ns (j:Int)=false):=λa b=>⟨bL,by cases hI:S.inj;exact .inl rfl;exact .inr (b hI)⟩;have U:=w.tg _ (aC W);have Y:=xa1 Y W (aA W);refine wp (h:=xJ (λJ=>Iv S most (.list (n.map Part.c)) (by simp [D.U,yJ]) ns j) wrq (λJ=>wl) (λJ=> rfl) rfl wdq ?_);refine wp (h:=b9 (λJ=>(by have hq:=Cu S.t w.v S.g.i[j] S.p.i[ns.length] U.1 U.2 a5.1;unfold Types.d Types.c dI at hq;exact hq)) (λJ=>wl) ?_);refine jH (λh7=>?_) λh7=>?_
    .have hE:LM S ns j=false:=by
      rw [hEj,bP];intro hT;simp at hT;obtain ⟨a,b,c⟩:=hT;rcases h7 with (h|h)|h
      .omega
      .rcases b with b|b
       .rw [b] at h;cases h.1
       .rw [b] at h;cases h.2
      .rw [c] at h;cases h
     obtain ⟨C,l⟩:∃ x,x=n:=⟨_,rfl⟩;have Y:=xa1 Y @Part.c.eq_1 l;exact wp (h:=wx V (j+1) ⟨C,wg,wn,wn,wn,wn,wj,(by rw [l];first|exact r|exact Wc w.gp _ _ r),(by rw [eP,<- E,l];first|rw [if_pos hE]|rw [if_neg (by rw [hE];simp)]),(by first|exact B|exact s|(intro q u m A;simp [go_sem,u,m,bU (bL:q<H.next)];exact s q u m A)),(by first|omega|(simp [go_sem];omega))⟩)
    .have hE:LM S ns j=true:=by
      obtain ⟨⟨a,b⟩,c⟩:=h7;rw [hEj];simp [c];exact ⟨bL,by cases hI:S.inj;exact .inl rfl;exact .inr (b hI)⟩
     obtain ⟨C,l⟩:∃ x,x=Ru S (most+1) N (ns++[(j:Int)]) n:=⟨_,rfl⟩;have Y:=xa1 Y @Part.c.eq_1 h7;refine wp (h:=?_);refine MA (args':=[.ptr f 1 0 0,dLI (ns++[(j:Int)])]) (by simp [go_sem,Y,dLI]) rfl ?_;unfold dQ;refine ih N bL (ns++[(j:Int)]) n _ _ et eq eq ⟨by simp [go_sem,Y],by simp [go_sem,Y],r⟩ (λH3 z L y=>?_);rw [<- l] at z;obtain ⟨a8,a7,b1⟩:=z;simp [go_sem] at y;have B:∀ j,j≠f->j≠o->j<G.next->H3.get j=G.get j:=λj u m A=>by
      have e1:=bU (bL:j<H.next);rw [L j u m eq];simp [go_sem,u,m,e1];exact s j u m A
     have a9:=xa0 (bU (bL:f<H3.next)) (bU (bL:o<H3.next));have Y:=xa2 Y a8 a7 a9;exact wp (h:=wx V (j+1) ⟨C,wg,wn,wn,wn,wn,wj,(by rw [l];first|exact r|exact Wc w.gp _ _ r),(by rw [eP,<- E,l];first|rw [if_pos hE]|rw [if_neg (by rw [hE];simp)]),(by first|exact B|exact s|(intro q u m A;simp [go_sem,u,m,bU (bL:q<H.next)];exact s q u m A)),(by first|omega|(simp [go_sem];omega))⟩)
   .have hJ:j=S.g.i.length:=bL;have a6:Ru S (most+1) (N+1) ns i=n:=by simp only [Ru];rw [if_neg hnf,E,hJ]
    refine wv (h:=?_);exact hQ _ (by rw [a6];exact ⟨by assumption,by assumption,r⟩) s a1
@[go_sem] theorem afQ {n:Nat}{c:Xa2}(h:D.N c=true):D.T (List.replicate n c)=true:=by
 induction n with
 | zero=>rfl
 | succ n ih=>simp [mU,D.T,h,ih]
def Q7 (n i:Nat):Xa0:=List.replicate i (-1)++List.replicate (n - i) 0
theorem Hq {n i:Nat}(h:i<=n):(Q7 n i).length=n:=by simp [Q7];omega
theorem Ty {n i:Nat}(h:i<n):(Q7 n i).set i (-1)=Q7 n (i+1):=by
 unfold Q7;rw [lI _ _ bS,sH,nU,show n - i=(n - (i+1))+1 by omega,mU,Ch];simp
theorem TA (n:Nat):Q7 n n=List.replicate n (-1):=by simp [Q7]
theorem PQ (n:Nat):Q7 n 0=List.replicate n 0:=by simp [Q7]
theorem RR (p:Graph)(M:p.i.length<=100000)(P:p.j.length<=100000):Pua 269 [p.d] (.agg [dLI (List.replicate p.i.length (-1)),dLI (List.replicate p.j.length (-1))]):=by
 refine Tz.pK ⟨λt=>t==2||t==3,λr=>match r with|1=>[(3,4),(3,5),(3,6),(0,7),(1,7),(2,7),(3,7),(0,9),(1,9),(2,9),(3,9),(4,9),(5,9),(6,9),(7,9)]|_=>[]⟩ func269 rfl (λQ L=>?_);have Y:=trivial;refine wp (h:=bA (λi e H=>(e 1=.adr p.c/\e 2=.ptr 0 1 0 0/\e 3=.ptr 10 1 0 0/\e 4=dI i)/\(H.get 0=some ⟨55,2,[[.nil,.nil]],false⟩)/\(0<H.next)/\(H.get 10=some ⟨55,2,[[.own 4 p.i.length,.own 8 p.j.length]],false⟩)/\(10<H.next)/\(H.get 4=some ⟨3,1,(Q7 p.i.length i).map cI,false⟩)/\(4<H.next)/\(H.get 8=some ⟨3,1,(Q7 p.j.length 0).map cI,false⟩)/\(8<H.next)/\(i<=p.i.length)/\((Q7 p.i.length i).length=p.i.length)) (λi=>p.i.length - i) 0 ⟨wg,wn,wn,wn,wn,(by simp [go_sem,PQ,cI]),wn,(by simp [go_sem,PQ,cI]),wn,wi,(by exact Hq bL)⟩ λS F i e H D=>?_);obtain ⟨K,y,u,l,b,g,q,v,n,O,B⟩:=D;have Y:=xa9 Y K y (bU u) l (bU b) g (bU q) v (bU n) B;refine jH (λI=>?_) λI=>?_
 .have hS:=Ty I;have z:i<(Q7 p.i.length i).length:=bL;have Y:=xa1 Y I (aA z);exact wp (h:=wx F (i+1) ⟨wg,wn,wn,wn,wn,(by simp [go_sem,Y,<- hS,c8,cI]),wn,cl,wn,wj,(by exact Hq bL)⟩)
 .have hie:i=p.i.length:=bL;rw [hie,TA] at g;have Y:=xa8 K y (bU u) l (bU b) g (bU q) v (bU n) B;refine wv (h:=bA (λk e H=>(e 1=.adr p.c/\e 2=.ptr 0 1 0 0/\e 3=.ptr 10 1 0 0/\e 5=dI k)/\(H.get 0=some ⟨55,2,[[.nil,.nil]],false⟩)/\(0<H.next)/\(H.get 10=some ⟨55,2,[[.own 4 p.i.length,.own 8 p.j.length]],false⟩)/\(10<H.next)/\(H.get 4=some ⟨3,1,(List.replicate p.i.length (-1:Int)).map cI,false⟩)/\(4<H.next)/\(H.get 8=some ⟨3,1,(Q7 p.j.length k).map cI,false⟩)/\(8<H.next)/\(k<=p.j.length)/\((Q7 p.j.length k).length=p.j.length)) (λk=>p.j.length - k) 0 ⟨wg,wn,wn,wn,wn,wn,wn,cl,wn,wi,(by exact Hq bL)⟩ λR E k e H C=>?_);obtain ⟨J,x,s,j,a,w,o,f,m,N,A⟩:=C;have Y:=xa9 Y J x (bU s) j (bU a) w (bU o) f (bU m) A;refine jH (λG=>?_) λG=>?_
  .have hS:=Ty G;have z:k<(Q7 p.j.length k).length:=bL;have Y:=xa1 Y G (aA z);exact wp (h:=wx E (k+1) ⟨wg,wn,wn,wn,wn,wn,wn,(by simp [go_sem,Y,<- hS,c8,cI]),wn,wj,(by exact Hq bL)⟩)
  .have hke:k=p.j.length:=bL;rw [hke,TA] at f;have Y:=xa9 B J x (bU s) j (bU a) w (bU o) f (bU m) A;exact wv (h:=L _ _ (by simp [go_sem,Y,dLI]))
theorem PV (l:List Part):eL (l.map Part.c)=l.map Part.c:=mZ λc hc=>by
 rw [aS] at hc;obtain ⟨x,_,rfl⟩:=hc;simp [Part.c,gI,lA,dLI,f8]
theorem UN (S:Srch)(m:G17 S.t S.p S.g)(e:S.pn.length=S.p.i.length)(f:S.pe.length=S.p.j.length)(most:Nat)(i:most<=5000) :
  Pua 268 [S.t.d,S.p.d,S.g.d,.agg [dLI S.pn,dLI S.pe],.bool S.inj,dI most] (.list (((Ad S).take (most+1)).map Part.c)):=by
 have a:Ru S (most+1) S.p.i.length [] []=(Ad S).take (most+1):=by rw [Rt m.gp (most+1) _ _ _ bS];simp [Ad]
 obtain ⟨L,r⟩:=cY ((Ad S).take (most+1));rw [<- r] at a ⊢;refine uT em (λQ q=>(Tz.cK ⟨λt=>t==21,λ_=>[]⟩ func268 rfl ?_));have Y:=trivial;refine wv (h:=?_);refine Aa (.step (.refl _) 0 0 10 55 2 _ _ eu rfl rfl rfl) ?_;simp [go_sem];refine QL (args':=[.ptr 0 1 0 0,dLI []]) (by simp [go_sem,dLI,U7]) ?_;unfold dQ;refine Pn S m e f most i 0 1 bL S.p.i.length [] [] _ _ bS eh eh ⟨by simp [go_sem,Srch.cells,Types.c,Graph.c,dLI,dI],by simp [go_sem],by simp⟩ (λs b o n=>?_);rw [a] at b;obtain ⟨k,j,l⟩:=b;have Y:=xa2 Y k j @Srch.cells.eq_1;refine wv (h:=?_);exact q _ _ (by simp [go_sem,Y,lA,PV])
def dJ (x:Term)(vs:Xa0):Int:=if x.var<0 then x.add else vs[x.var.toNat]?.getD 0+x.add
def Sm (vs:Xa0):Prop:=∀ v∈vs,-4000000<=v/\v<=4000000
theorem Sm.get {vs:Xa0}(h:Sm vs){k:Nat}(hk:k<vs.length) : -4000000<=vs[k]/\vs[k]<=4000000:=h _ (aC hk)
def rF (x:Term)(n:Nat):Prop:=(-1<=x.var/\x.var<n)/\(-1000000<=x.add/\x.add<=1000000)
theorem sO (x:Term)(vs:Xa0)(e:rF x vs.length)(f:Sm vs):Pua 270 [.agg x.c,dLI vs] (dI (dJ x vs)):=by
 have a:=e;obtain ⟨⟨l,k⟩,j,i⟩:=a;refine Tz.p0 func270 rfl λQ b _=>?_;have Y:=@Term.c.eq_1;refine dD (λd=>?_) λd=>?_
 .exact wv (h:=b _ _ (by simp [go_sem,dJ,d]))
 .have hk:x.var.toNat<vs.length:=bL;have g:=f.get hk;have Y:=wa Y (aA hk);exact wo (h:=b _ _ (by simp [go_sem,dJ,(bL:¬ x.var<0),aA hk]))
theorem kM (x:Term)(vs:Xa0)(d:rF x vs.length)(f:Sm vs):Pua 221 [.agg x.c,dLI vs] (.tup [dI (dJ x vs),dI 0]):=by
 have a:=d;obtain ⟨⟨k,j⟩,i,g⟩:=a;refine Tz.p0 func221 rfl λQ e _=>?_;have Y:=@Term.c.eq_1;refine dZ (λb=>?_) λb=>?_
 .have Y:=wa Y b;exact wv (h:=e _ _ wy)
 .refine wv (h:=aB (sO x vs d f) wl ?_);have Y:=wa Y b;exact wv (h:=e _ _ wy)
theorem Gp (x:Term)(vs:Xa0)(f:rF x vs.length)(g:Sm vs):Pua 326 [.agg x.c,dLI vs] (.tup [dI (dJ x vs),.bool true]):=by
 have a:=f;obtain ⟨⟨m,l⟩,k,j⟩:=a;refine Tz.p0 func326 rfl λQ b _=>?_;have Y:=@Term.c.eq_1;refine dD (λd=>?_) λd=>?_
 .exact wv (h:=b _ _ (by simp [go_sem,dJ,d]))
 .refine dZ (λe=>?_) λe=>?_
  .have Y:=xa1 Y d e;exact wv (h:=b _ _ wy)
  .have hk:x.var.toNat<vs.length:=bL;have i:=g.get hk;have Y:=wa Y (aA hk);exact wo (h:=b _ _ (by simp [go_sem,dJ,aA hk];omega))
def B9 (x:Test)(vs:Xa0):Bool:=(decide (x.kind=1)&&decide (dJ x.left vs<=dJ x.right vs))||(decide (x.kind=2)&&decide (dJ x.left vs=dJ x.right vs))
def J6 (x:Test)(n:Nat):Prop:=(x.kind=1\/x.kind=2)/\rF x.left n/\rF x.right n
theorem PA (x:Test)(vs:Xa0)(b:J6 x vs.length)(a:Sm vs):Pua 271 [.agg x.c,dLI vs] (.bool (B9 x vs)):=by
 obtain ⟨g,e,d⟩:=b;refine Tz.p0 func271 rfl λQ f _=>?_;have Y:=@Test.c.eq_1;refine wv (h:=?_);refine aB (Gp x.left vs e a) wl ?_;refine wv (h:=?_);refine aB (Gp x.right vs d a) wl ?_;refine wv (h:=?_);repeat first|intro _|refine ⟨iV,?_⟩
 exact f _ _ (by simp [go_sem,B9,DW])
def mN (h:Host)(m:Part)(s:Slot):Int:=(h.values[(m.i[s.node.toNat]?.getD 0).toNat]?.getD [])[s.Q.toNat]?.getD 0
def lZ (st:Xa0 × List Bool)(s:Slot):Bool:=decide (0<=s.E.var)&&!(st.2[s.E.var.toNat]?.getD false)
def mY (h:Host)(m:Part)(st:Xa0 × List Bool)(s:Slot):Xa0 × List Bool :=
 if lZ st s=true then (st.1.set s.E.var.toNat (mN h m s - s.E.add),st.2.set s.E.var.toNat true) else st
def kB (h:Host)(m:Part):Xa0 × List Bool->List Slot->Option (Xa0 × List Bool)
 | st,[]=>some st
 | st,s :: l=>if dJ s.E (mY h m st s).1=mN h m s then kB h m (mY h m st s) l else none
theorem AT (h:Host)(m:Part)(s:Slot):∀ (l:List Slot) (st:Xa0 × List Bool),kB h m st (l++[s])=(kB h m st l).bind λq=>if dJ s.E (mY h m q s).1=mN h m s then some (mY h m q s) else none
 | [],st=>by simp [kB]
 | a :: l,st=>by
  simp only [eV,kB];split
  .exact AT h m s l _
  .rfl
theorem F5 (h:Host)(m:Part):∀ (l r:List Slot) (st:Xa0 × List Bool),kB h m st l=none->kB h m st (l++r)=none
 | [],r,st,hn=>by simp [kB] at hn
 | a :: l,r,st,hn=>by
  simp only [eV,kB] at hn ⊢;split at hn
  .rename_i he;rw [if_pos he];exact F5 h m l r _ hn
  .rename_i he;rw [if_neg he]
theorem v6 {h:Host}{m:Part}{l:List Slot}{i:Nat}(c:i<l.length){st q:Xa0 × List Bool}(b:kB h m st (l.take i)=some q) :
  (dJ l[i].E (mY h m q l[i]).1=mN h m l[i]->kB h m st (l.take (i+1))=some (mY h m q l[i]))/\(dJ l[i].E (mY h m q l[i]).1≠mN h m l[i]->kB h m st l=none):=by
 have e:l.take (i+1)=l.take i++[l[i]]:=aD c;refine ⟨λa=>?_,λa=>?_⟩
 .rw [e,AT,b];simp [a]
 .have hn:kB h m st (l.take (i+1))=none:=by rw [e,AT,b];simp [a]
  have:=F5 h m _ (l.drop (i+1)) st hn;rw [List.take_append_drop] at this;exact this
def eY (p:Pattern)(h:Host)(m:Part)(vs:Xa0):Xa0 × Int :=
 match kB h m (vs++List.replicate (p.vars.toNat - vs.length) 0,List.replicate vs.length true++List.replicate (p.vars.toNat - vs.length) false) p.q with
 | none=>([],11)
 | some q=>if p.R.all (λx=>B9 x q.1)=true then (q.1,0) else ([],16)
structure Mat where
 m:Part
 vars:Xa0
def Mat.c (x:Mat):Xa2:=[dLI x.m.i,dLI x.m.j,dLI x.vars]
def Mat.d (x:Mat):D:=.agg x.c
@[go_sem] theorem Mat.U (x:Mat):D.N x.c=true:=by simp [Mat.c,D.N,pA]
@[go_sem] theorem ag6 (l:List Mat):D.T (l.map Mat.c)=true:=dL _ Mat.U l
def FB (l:List Part):List Part × Int:=if 5000<(l.take 5001).length then ([],3) else (l.take 5001,0)
def lD (t:Types)(p g:Graph)(inj:Bool):List Part × Int:=if eZ t p g≠0 then ([],eZ t p g) else FB (Ad ⟨t,p,g,List.replicate p.i.length (-1),List.replicate p.j.length (-1),inj⟩)
def DN (n:Int)(l:Xa0)(i:Nat):Int:=if l[i]?.getD 0 < -1\/n<=l[i]?.getD 0 then 6 else 0
def oY (l:Xa0)(n:Int):Int:=b6 (DN n l) 0 l.length
def o9 (t:Types)(p g:Graph)(q:Part)(inj:Bool):List Part × Int :=
 if eZ t p g≠0 then ([],eZ t p g)
 else if q.i.length≠p.i.length\/q.j.length≠p.j.length then ([],20)
 else if oY q.i g.i.length≠0 then ([],oY q.i g.i.length)
 else if oY q.j g.j.length≠0 then ([],oY q.j g.j.length)
 else FB (Ad ⟨t,p,g,q.i,q.j,inj⟩)
def A9 (n:Nat)(at_ im:Xa0):Xa0:=(List.range at_.length).foldl (λacc i=>acc.set (at_[i]?.getD 0).toNat (im[i]?.getD 0)) (List.replicate n (-1))
def qT (c:Part)(q:Pattern)(m:Part):Part:=⟨A9 q.o.i.length c.i m.i,A9 q.o.j.length c.j m.j⟩
def uJ (q:Pattern)(h:Host)(vars:Xa0)(l:List Part):List Mat:=l.filterMap λx=>if (eY q h x vars).2=0 then some ⟨x,(eY q h x vars).1⟩ else none
def AD (t:Types)(c:Part)(q:Pattern)(h:Host)(m:Mat)(inj:Bool):List Mat × Int :=
 if (o9 t q.o h.o (qT c q m.m) inj).2≠0 then ([],(o9 t q.o h.o (qT c q m.m) inj).2)
 else (uJ q h m.vars (o9 t q.o h.o (qT c q m.m) inj).1,0)
/-! ### conditions: the first witness -/
inductive Prf where
 | mk (choice:Int) (m:Mat) (kids:List Prf)
mutual
def Prf.c:Prf→Xa2
 | .mk ch m l=>[dI ch,dLI m.m.i,dLI m.m.j,dLI m.vars,.list (Prf.cs l)]
def Prf.cs:List Prf→Xa1
 | []=>[]
 | p :: l=>p.c :: Prf.cs l
end
theorem Prf.be (l:List Prf):Prf.cs l=l.map Prf.c:=by
 induction l with
 | nil=>simp [Prf.cs]
 | cons a l ih=>simp [Prf.cs,ih]
theorem Prf.F (a:Int)(m:Mat)(l:List Prf):(Prf.mk a m l).c=[dI a,dLI m.m.i,dLI m.m.j,dLI m.vars,.list (l.map Prf.c)]:=by simp [Prf.c,Prf.be]
mutual
theorem Prf.U:∀ x:Prf,D.N x.c=true
 | .mk ch m l=>by
  have:=Prf.cj l;simp [Prf.c,D.N,D.U,dI,pA,this]
theorem Prf.cj:∀ l:List Prf,D.T (Prf.cs l)=true
 | []=>by simp [Prf.cs,D.T]
 | c :: l=>by simp [Prf.cs,D.T,Prf.U c,Prf.cj l]
end
attribute [go_sem] Prf.U
@[go_sem] theorem agR (l:List Prf):D.T (l.map Prf.c)=true:=by rw [<- Prf.be];exact Prf.cj l
mutual
theorem abX:∀ x:Prf,gI x.c=x.c
 | .mk ch m l=>by
  have:=Ol l;simp [Prf.c,gI,lA,dI,dLI,f8,this]
theorem Ol:∀ l:List Prf,eL (Prf.cs l)=Prf.cs l
 | []=>by simp [Prf.cs,eL]
 | c :: l=>by simp [Prf.cs,eL,abX c,Ol l]
end
theorem gL (l:List Prf):eL (l.map Prf.c)=l.map Prf.c:=by rw [<- Prf.be];exact Ol l
def kD:Mat:=⟨⟨[],[]⟩,[]⟩
def kO:Prf:=.mk 0 kD []
def Yz (e:Int):Int:=if e=0 then 10 else if e=10 then 0 else e
def Oe:List (Prf × Int)->List Prf->Prf × Int
 | [],acc=>(.mk 0 kD acc,0)
 | (p,e) :: l,acc=>if e≠0 then (kO,e) else Oe l (acc++[p])
def Yt:List (Prf × Int)->Nat->Prf × Int
 | [],_=>(kO,10)
 | (p,e) :: l,i=>if e≠10 then (.mk i kD [p],e) else Yt l (i+1)
def YR:List (Mat × (Prf × Int))->Prf × Int
 | []=>(kO,10)
 | (m,(p,e)) :: l=>if e≠10 then (.mk 0 m [p],e) else YR l
def Qj (fs:List (Mat->Prf × Int)):Mat->Prf × Int:=fs.head?.getD λ_=>(kO,0)
mutual
def qK (t:Types)(h:Host)(inj:Bool):Cond→Mat→Prf × Int
 | .mk k l mp q=>fun m =>
  if k=2 then (kO,Yz (Qj (FY t h inj l) m).2)
  else if k=3 then Oe ((FY t h inj l).map fun f=>f m) []
  else if k=4 then Yt ((FY t h inj l).map fun f=>f m) 0
  else if k=5 then (if (AD t mp q h m inj).2≠0 then (kO,(AD t mp q h m inj).2) else YR ((AD t mp q h m inj).1.map fun x=>(x,Qj (FY t h inj l) x)))
  else (kO,0)
def FY (t:Types)(h:Host)(inj:Bool):List Cond→List (Mat→Prf × Int)
 | []=>[]
 | c :: l=>qK t h inj c :: FY t h inj l
end
theorem V2 (t:Types)(h:Host)(b:Bool)(l:List Cond):FY t h b l=l.map (qK t h b):=by
 induction l with
 | nil=>simp [FY]
 | cons a l ih=>simp [FY,ih]
theorem MT (t:Types)(h:Host)(a:Bool)(c:Cond)(m:Mat):qK t h a c m =
  if c.kind=2 then (kO,Yz (Qj (c.y.map (qK t h a)) m).2)
  else if c.kind=3 then Oe (c.y.map λk=>qK t h a k m) []
  else if c.kind=4 then Yt (c.y.map λk=>qK t h a k m) 0
  else if c.kind=5 then (if (AD t c.map c.u h m a).2≠0 then (kO,(AD t c.map c.u h m a).2) else YR ((AD t c.map c.u h m a).1.map λx=>(x,Qj (c.y.map (qK t h a)) x)))
  else (kO,0):=by
 cases c;simp only [qK,V2,Cond.kind,Cond.y,Cond.map,Cond.u,List.map_map];rfl
def V3 (t:Types)(h:Host)(inj:Bool)(c:Cond)(m:Mat):Int:=(qK t h inj c m).2
def pG (t:Types)(h:Host)(inj:Bool)(c:Cond)(m:Mat):Bool × Int:=if V3 t h inj c m=10 then (false,0) else (decide (V3 t h inj c m=0),V3 t h inj c m)
/-! ### a step -/
def eJ (t:Types)(p:Pattern)(h:Host)(m:Part):Xa0 × Int :=
 if c7 t p≠0 then ([],c7 t p) else if dH t h≠0 then ([],dH t h) else if fX t p.o h.o m false≠0 then ([],fX t p.o h.o m false) else eY p h m []
def eO (t:Types)(p:Pattern)(h:Host)(inj:Bool):List Mat × Int :=
 if c7 t p≠0 then ([],c7 t p) else if dH t h≠0 then ([],dH t h)
 else if (lD t p.o h.o inj).2≠0 then ([],(lD t p.o h.o inj).2) else (uJ p h [] (lD t p.o h.o inj).1,0)
def sR (p g:Graph)(m:Part):Graph:=⟨m.i.map (gN g),p.j⟩
def tA (t:Types)(r:Rule)(h:Host)(m:Mat):Int :=
 if fX t r.left.o h.o m.m r.inj≠0 then 1
 else if (eJ t r.left h m.m).2≠0 then (eJ t r.left h m.m).2
 else if (eJ t r.left h m.m).1≠m.vars then 11
 else tK (sR r.left.o h.o m.m) h.o r.G m.m
def mK (t:Types)(r:Rule)(h:Host)(m:Mat):Int :=
 if tA t r h m≠0 then tA t r h m
 else if (pG t h r.inj r.cond m).2≠0 then (pG t h r.inj r.cond m).2
 else if (pG t h r.inj r.cond m).1=false then 16 else 0
def dB (r:Rule)(h:Host)(m:Mat):Part:=u9 (sR r.left.o h.o m.m) h.o r.G m.m
def jG (l:Xa0)(n:Nat)(v:Int):Int:=(List.range n).foldl (λacc (k:Nat)=>if l[k]?.getD (-1)=v then (k:Int) else acc) (-1)
def mG (l:Xa0)(n:Nat):Xa0:=(List.range n).map λ(v:Nat)=>jG l l.length v
def CU (into:Xa0)(i:Nat):Nat:=((List.range i).filter λ(j:Nat)=>decide (jG into into.length j<0)).length
def Mt (keep into at_:Xa0)(remain:Nat)(i:Nat):Int:=if 0<=jG into into.length i then at_[(keep[(jG into into.length i).toNat]?.getD 0).toNat]?.getD 0 else ((remain+CU into i:Nat):Int)
def Hd (keep into at_:Xa0)(right remain:Nat):Xa0:=(List.range right).map (Mt keep into at_ remain)
def uK (d:Xa0)(n:Nat):Xa0:=mG d n
def pP (r:Rule)(h:Host)(m:Mat):Part:=⟨uK (dB r h m).i h.o.i.length,uK (dB r h m).j h.o.j.length⟩
def rH (l tr:Xa0):Xa0:=l.map λk=>tr[k.toNat]?.getD 0
def r4 (r:Rule)(h:Host)(m:Mat):Part :=
 ⟨Hd r.G.i r.O.i (rH m.m.i (pP r h m).i) r.right.o.i.length (dB r h m).i.length,Hd r.G.j r.O.j (rH m.m.j (pP r h m).j) r.right.o.j.length (dB r h m).j.length⟩
def pW (t:Types)(k:Int):Xa0:=(bZ t k).map λa=>a.am
def freshE (c:Part)(y:Edge):Edge:=⟨y.type,c.i[y.from_.toNat]?.getD 0,c.i[y.L.toNat]?.getD 0⟩
def kP (t:Types)(r:Rule)(c:Part)(x:Host):Host :=
 ⟨⟨x.o.i++r.ac.map (gN r.right.o),x.o.j++r.av.map (λk=>freshE c (r.right.o.j[k.toNat]?.getD cK))⟩,x.values++r.ac.map (λk=>pW t (gN r.right.o k))⟩
def dM (t:Types)(r:Rule)(h:Host)(m:Mat):Host:=kP t r (r4 r h m) ⟨dF h.o (dB r h m),(dB r h m).i.map λk=>h.values[k.toNat]?.getD []⟩
def f9 (c:Part)(s:Slot):Nat:=(c.i[s.node.toNat]?.getD 0).toNat
def FG (c:Part)(vs:Xa0)(a b:Slot):Bool:=decide (f9 c a=f9 c b)&&(decide (a.Q=b.Q)&&decide (dJ a.E vs≠dJ b.E vs))
def z8 (c:Part)(vs:Xa0)(l:List Slot):Bool:=(List.range l.length).any λi=>(List.range i).any λk=>match l[k]?,l[i]? with|some a,some b=>FG c vs a b|_,_=>false
def Ba (t:Types)(g:Graph)(c:Part)(vs:Xa0)(s:Slot):Bool :=
 let a:=(bZ t (g.i[f9 c s]?.getD 0))[s.Q.toNat]?.getD qN
 decide (dJ s.E vs<a.am)||decide (a.aw<dJ s.E vs)
def xF (t:Types)(g:Graph)(c:Part)(vs:Xa0)(l:List Slot):Int:=if z8 c vs l=true then 11 else if l.any (Ba t g c vs)=true then 6 else 0
def xE (c:Part)(vs:Xa0)(l:List Slot)(vals:Yb):Yb:=l.foldl (λvals s=>vals.set (f9 c s) ((vals[f9 c s]?.getD []).set s.Q.toNat (dJ s.E vs))) vals
def xO (t:Types)(r:Rule)(h:Host)(m:Mat):Host:=⟨(dM t r h m).o,xE (r4 r h m) m.vars r.right.q (dM t r h m).values⟩
def iT (t:Types)(r:Rule)(h:Host)(m:Mat):Int :=
 if mK t r h m≠0 then mK t r h m
 else if xF t (dM t r h m).o (r4 r h m) m.vars r.right.q≠0 then xF t (dM t r h m).o (r4 r h m) m.vars r.right.q
 else if 40<(dM t r h m).o.i.length\/80<(dM t r h m).o.j.length then 3 else 0
structure Stp26 where
 V:Rule
 d4:Mat
 dz:Host
 after:Host
 cv:Part
 cb:Part
def Stp26.c (s:Stp26):Xa2:=s.V.c++s.d4.c++s.dz.c++s.after.c++[dLI s.cv.i,dLI s.cv.j,dLI s.cb.i,dLI s.cb.j]
def fU (t:Types)(r:Rule)(h:Host):Int:=if ruleF t r≠0 then ruleF t r else dH t h
def nT (t:Types)(r:Rule)(h:Host)(m:Mat):Int:=if fU t r h≠0 then fU t r h else iT t r h m
def EV (t:Types)(r:Rule)(h:Host)(m:Mat):Stp26:=⟨r,m,h,xO t r h m,pP r h m,r4 r h m⟩
def iS (t:Types)(r:Rule)(h:Host):List Mat × Int :=
 if fU t r h≠0 then ([],fU t r h) else if (eO t r.left h r.inj).2≠0 then ([],(eO t r.left h r.inj).2) else ((eO t r.left h r.inj).1.filter λm=>decide (iT t r h m=0),0)
@[go_sem] theorem acO (l:List Part):D.T (l.map Part.c)=true:=yJ l
theorem adM (t:Types)(p g:Graph)(hG:G17 t p g)(pn pe:Xa0)(h1:pn.length=p.i.length)(h2:pe.length=p.j.length)(inj:Bool) :
  Pua 268 [t.d,p.d,g.d,.agg [dLI pn,dLI pe],.bool inj,dI 5000] (.list (((Ad ⟨t,p,g,pn,pe,inj⟩).take 5001).map Part.c)) :=
 UN ⟨t,p,g,pn,pe,inj⟩ hG h1 h2 5000 bL
theorem Wi (t:Types)(p g:Graph)(hG:G17 t p g)(pn pe:Xa0)(h1:pn.length=p.i.length)(h2:pe.length=p.j.length)(inj:Bool){L:List Part}(hL:L=(Ad ⟨t,p,g,pn,pe,inj⟩).take 5001) :
 Pua 268 [t.d,p.d,g.d,.agg [dLI pn,dLI pe],.bool inj,dI 5000] (.list (L.map Part.c)):=hL ▸ adM t p g hG pn pe h1 h2 inj
theorem Z1 (t:Types)(p g:Graph)(e:G17 t p g)(a:Bool){L:List Part}(b:L=(Ad ⟨t,p,g,List.replicate p.i.length (-1),List.replicate p.j.length (-1),a⟩).take 5001) :
  Pua 268 [t.d,p.d,g.d,.agg [.list (List.replicate p.i.length [D.int .i64 (-1)]),.list (List.replicate p.j.length [D.int .i64 (-1)])],.bool a,dI 5000] (.list (L.map Part.c)):=by
 have:=Wi t p g e _ _ bS bS a b;simpa only [dLI,List.map_replicate,cI] using this
theorem UO (t:Types)(j:t.ok)(p g:Graph)(a:Bool):Pua 209 [t.d,p.d,g.d,.bool a] (.tup [.list ((lD t p g a).1.map Part.c),dI (lD t p g a).2]):=by
 refine Tz.p0 func209 rfl λQ f Y=>?_;refine wv (h:=aB (wB t j p g) wl ?_);refine dD (λe=>?_) λe=>?_
 .have b:lD t p g a=([],eZ t p g):=by unfold lD;rw [if_pos (cG e)]
  exact wv (h:=f _ _ (eD b))
 .have hG:=oH (cG e);have k:=bW hG.gp;obtain ⟨L,i⟩:=cY ((Ad ⟨t,p,g,List.replicate p.i.length (-1),List.replicate p.j.length (-1),a⟩).take 5001);have b:lD t p g a=if 5000<L.length then ([],3) else (L,0):=by unfold lD;rw [if_neg (cG e)];unfold FB;rw [<- i]
  refine wv (h:=aJ (RR p bL bL) wl ?_);refine wv (h:=aJ (Z1 t p g hG a i) wl ?_);refine dZ (λl=>?_) λl=>?_
  .rw [if_pos bL] at b;exact wv (h:=f _ _ (eD b))
  .rw [if_neg bL] at b;exact wv (h:=f _ _ (eD b))
def DK (l:Xa0)(xK n:Int):Int:=if (l.length:Int)≠xK then 20 else oY l n
theorem DF (l:Xa0)(xK n:Int):Pua 394 [dLI l,dI xK,dI n] (dI (DK l xK n)):=by
 refine Tz.p0 func394 rfl λQ d Y=>?_;refine dZ (λk=>?_) λk=>?_
 .have hP:DK l xK n=20:=by unfold DK;rw [if_pos bL]
  exact wv (h:=d _ _ (eD hP))
 .have hP:DK l xK n=oY l n:=by unfold DK;rw [if_neg bL]
  refine wv (h:=bA (λi e H=>(e 0=dLI l/\e 2=dI n/\e 7=dI i)/\(i<=l.length)/\(b6 (DN n l) i (l.length - i)=oY l n)) (λi=>l.length - i) 0 ⟨wg,wi,(by rfl)⟩ λp f i e H c=>?_);obtain ⟨m,o,g⟩:=c;have Y:=wa Y m;refine wv (h:=?_);repeat first|intro _|refine ⟨iV,?_⟩
  refine wq (λa=>?_) λa=>?_
  .have hst:=fG (DN n l) a;rw [g] at hst;have b:DN n l i=if l[i] < -1\/n<=l[i] then 6 else 0:=by simp only [DN,aA a,aF]
   have Y:=xa1 Y a (aA a);refine dZ (λj=>?_) λj=>?_
   .rw [if_pos bL] at b;rw [b,if_pos bL] at hst;exact wv (h:=d _ _ (fc hP hst))
   .rw [if_neg bL] at b;rw [b,if_neg bL] at hst;exact wo (h:=wx f (i+1) ⟨wg,wj,(by exact hst.symm)⟩)
  .have hZ:oY l n=0:=by rw [<- g,(bL:l.length - i=0)];rfl
   exact wv (h:=d _ _ (fc hP hZ))
theorem Nv (t:Types)(o:t.ok)(p g:Graph)(q:Part)(a:Bool):Pua 373 [t.d,p.d,g.d,q.d,.bool a] (.tup [.list ((o9 t p g q a).1.map Part.c),dI (o9 t p g q a).2]):=by
 refine Tz.p0 func373 rfl λQ k Y=>?_;refine wv (h:=aB (wB t o p g) wl ?_);refine dD (λi=>?_) λi=>?_
 .have b:o9 t p g q a=([],eZ t p g):=by unfold o9;rw [if_pos (cG i)]
  exact wv (h:=k _ _ (eD b))
 .have hG:=oH (cG i);refine dZ (λr=>?_) λr=>?_
  .have b:o9 t p g q a=([],20):=by unfold o9;rw [if_neg (cG i),if_pos bL]
   exact wv (h:=k _ _ (eD b))
  .have hq:q.i.length=p.i.length/\q.j.length=p.j.length:=bL;have f:DK q.i p.i.length g.i.length=oY q.i g.i.length:=by unfold DK;rw [if_neg bL]
   have e:DK q.j p.j.length g.j.length=oY q.j g.j.length:=by unfold DK;rw [if_neg bL]
   refine wo (h:=aB (DF q.i p.i.length g.i.length) wl ?_);refine dZ (λl=>?_) λl=>?_
   .have b:o9 t p g q a=([],oY q.i g.i.length):=by unfold o9;rw [if_neg (cG i),if_neg bL,if_pos (by rw [<- f];exact l)]
    exact wv (h:=k _ _ (fc b f))
   .have h7':oY q.i g.i.length=0:=by rw [<- f];exact l
    refine wo (h:=aB (DF q.j p.j.length g.j.length) wl ?_);refine dZ (λj=>?_) λj=>?_
    .have b:o9 t p g q a=([],oY q.j g.j.length):=by unfold o9;rw [if_neg (cG i),if_neg bL,if_neg bL,if_pos (by rw [<- e];exact j)]
     exact wv (h:=k _ _ (fc b e))
    .have h10':oY q.j g.j.length=0:=by rw [<- e];exact j
     obtain ⟨L,n⟩:=cY ((Ad ⟨t,p,g,q.i,q.j,a⟩).take 5001);have b:o9 t p g q a=if 5000<L.length then ([],3) else (L,0):=by unfold o9;rw [if_neg (cG i),if_neg bL,if_neg bL,if_neg bL];unfold FB;rw [<- n]
     refine wv (h:=aB (Wi t p g hG q.i q.j hq.1 hq.2 a n) wl ?_);refine dZ (λm=>?_) λm=>?_
     .rw [if_pos bL] at b;exact wv (h:=k _ _ (eD b))
     .rw [if_neg bL] at b;exact wv (h:=k _ _ (eD b))
/-! ### the instance of a pattern -/
def Jg (g:Graph)(ms ns:Xa0)(i:Nat):Xa0:=(List.range i).foldl (λacc k=>acc.set k (gN g (ms[k]?.getD 0))) ns
theorem Bj (g:Graph)(ms ns:Xa0):∀ i,(Jg g ms ns i).length=ns.length
 | 0=>rfl
 | i+1=>by unfold Jg;rw [eP,iZ];exact Bj g ms ns i
theorem L6 (g:Graph)(a ns:Xa0)(i:Nat):Jg g a ns (i+1)=(Jg g a ns i).set i (gN g (a[i]?.getD 0)):=by unfold Jg;rw [eP]
theorem Qe (g:Graph)(ms ns:Xa0)(k:Nat)(hk:k<ns.length):∀ i,(Jg g ms ns i)[k]?=if k<i then some (gN g (ms[k]?.getD 0)) else ns[k]?
 | 0=>by simp [Jg]
 | i+1=>by
  rw [L6,cT,Bj,Qe g ms ns k hk i];by_cases h:i=k
  .subst h;simp [hk]
  .rw [if_neg h];by_cases h2:k<i
   .rw [if_pos h2,if_pos bL]
   .rw [if_neg h2,if_neg bL]
theorem W0 {g:Graph}{a ns:Xa0}(h:a.length=ns.length):Jg g a ns ns.length=a.map (gN g):=by
 apply fC;intro k;by_cases b:k<ns.length
 .rw [Qe g a ns k b,if_pos b,aW,aA bL];rfl
 .rw [bC (by rw [Bj];omega),bC et]
def Cc (t:Types)(p g:Graph)(m:Part):Graph:=if fX t p g m false=0 then sR p g m else ⟨[],[]⟩
theorem BP {t:Types}{p g:Graph}{m:Part}{a:Bool}(h:jY t p g m a=0) :
  (m.i.length=p.i.length/\m.j.length=p.j.length)/\(∀ x∈m.i,0<=x/\x<g.i.length)/\(∀ x∈m.j,0<=x/\x<g.j.length):=by
 unfold jY at h;split at h
 .cases h
 .rename_i h1;split at h
  .exact absurd h er
  .rename_i h2;split at h
   .exact absurd h er
   .rename_i h3;refine ⟨bL,λx b=>?_,λx b=>?_⟩
    .obtain ⟨k,c,rfl⟩:=aM b;have:=fF _ _ (cG h2) k (dN _) bL;unfold LZ at this;rw [aA c,aF] at this;split at this
     .cases this
     .omega
    .obtain ⟨k,c,rfl⟩:=aM b;have:=fF _ _ (cG h3) k (dN _) bL;unfold jP at this;rw [aA c,aF] at this;split at this
     .cases this
     .omega
theorem uD {t:Types}{p g:Graph}{m:Part}{a:Bool}(h:fX t p g m a=0):G17 t p g/\jY t p g m a=0:=by
 unfold fX at h;split at h
 .exact absurd h er
 .rename_i h1;exact ⟨oH (cG h1),h⟩
theorem Iw (t:Types)(R:t.ok)(p g:Graph)(m:Part):Pua 214 [t.d,p.d,g.d,m.d] (.tup [(Cc t p g m).d,dI (fX t p g m false)]):=by
 refine Tz.pK ⟨λt=>t==8||t==11,λ_=>[]⟩ func214 rfl (λQ M=>?_);have Y:=trivial;refine wv (h:=aB (A3 t R p g m false) wl ?_);refine dD (λu=>?_) λu=>?_
 .have I:Cc t p g m=⟨[],[]⟩:=by unfold Cc;rw [if_neg (cG u)]
  exact wv (h:=M _ _ (eD I))
 .obtain ⟨N,hM⟩:=uD (cG u);obtain ⟨⟨r,X⟩,z,U⟩:=BP hM;have W:=bW N.gp;have V:=bW N.gg;have I:Cc t p g m=sR p g m:=by unfold Cc;rw [if_pos (cG u)]
  refine wv (h:=?_);unfold dQ;refine Ct p bL bL _ _ (λa b j ha hb a2 a1 Z E D F S=>?_);have a4:(0:Nat)<j.next:=bL;have a3:a≠0:=by simp [go_sem] at ha;omega
  have a0:b≠0:=by simp [go_sem] at hb;omega
  have s:=F 0 eh;simp [go_sem] at s;have P:=Yy j.next;have J:=xa1 (bU (bL:a<j.next)) (bU (bL:b<j.next)) (bU (bL:0<j.next));have L:=xa1 (b8 (bL:0≠b)) (b8 (bL:0≠a)) (b8 (bL:b≠a));have Y:=xa5 Y J L E D s P;refine wv (h:=bA (λi e H=>∃ c:Nat,(e 4=.adr t.c/\e 5=.adr p.c/\e 6=.adr g.c/\e 7=.adr m.c/\e 8=.ptr 0 1 0 0/\e 11=.ptr c 1 0 0/\e 12=dI i)/\(H.get 0=some ⟨30,2,[[.nil,.nil]],false⟩)/\(0<H.next)/\(H.get c=some ⟨30,2,[[.own a p.i.length,.own b p.j.length]],false⟩)/\(c<H.next)/\(H.get a=some ⟨3,1,(Jg g m.i p.i i).map cI,false⟩)/\(a<H.next)/\(H.get b=some ⟨124,3,p.j.map Edge.c,false⟩)/\(b<H.next)/\(i<=p.i.length)/\(a<c/\b<c)/\((Jg g m.i p.i i).length=p.i.length)) (λi=>p.i.length - i) 0 ⟨j.next,wg,wn,wn,wn,wn,(by simp [go_sem,Y,Jg]),wn,wn,wn,wi,bL,(by exact Bj _ _ _ _)⟩ λI0 G i e H A=>?_);obtain ⟨c,E0,y,o,v,k,x,n,w,l,hi,hc,q⟩:=A;have K:=xa4 (b8 (bL:0≠c)) (b8 (bL:0≠b)) (b8 (bL:0≠a)) (b8 (bL:c≠b)) (b8 (bL:c≠a)) (b8 (bL:b≠a));have Y:=xb0 Y E0 y (bU o) v (bU k) x (bU n) w (bU l) q K;refine jH (λO=>?_) λO=>?_
  .have him:i<m.i.length:=bL;have T:=z _ (aC him);have f:m.i[i].toNat<g.i.length:=bL;have C:gN g (m.i[i]?.getD 0)=g.i[m.i[i].toNat]:=by rw [aA him,aF];simp [gN,aA f]
   have B:gN g m.i[i]=g.i[m.i[i].toNat]:=by simp [gN,aA f]
   have Y:=xa2 Y O (aA him) (aA f);exact wp (h:=wx G (i+1) ⟨c,wg,wn,wn,wn,wn,(by simp [go_sem,Y,L6,c8,C,B,cI]),wn,wn,wn,wj,bL,(by exact Bj _ _ _ _)⟩)
  .have hIe:i=p.i.length:=bL;have hE:=W0 (g:=g) r;rw [hIe] at q;exact wv (h:=M _ _ (by simp [go_sem,Y,I,sR,Graph.d,Graph.c,hIe,hE,dLI,r,u]))
end Go.Abs
end

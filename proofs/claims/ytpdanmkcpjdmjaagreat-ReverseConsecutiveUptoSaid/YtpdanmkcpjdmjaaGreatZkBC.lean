/- Layer 27: UndoAll of the program. · Plain law: a step can be -/
import Derived.Test.YtpdanmkcpjdmjaaGreatZkAF
import Derived.Test.YtpdanmkcpjdmjaaGreatZkAA
import Derived.Test.YtpdanmkcpjdmjaaGreatZkAZ
import Derived.Test.YtpdanmkcpjdmjaaGreatZkAY
set_option linter.unusedVariables false
set_option linter.unusedSimpArgs false
section
set_option maxRecDepth 100000
set_option maxHeartbeats 4000000
open Go Go.Proofs Tryz
namespace Go.Abs
theorem G6 (t:Types)(l:List Stp26)(c:Nat)(g:Host)(m:Part)(out:List Stp26):y4 t l (c+1) g m out=if oC t (n7 l c)≠0 then ([],⟨[],[]⟩,oC t (n7 l c)) else if Nf t (n7 l c) g m≠0 then ([],⟨[],[]⟩,Nf t (n7 l c) g m)
 else y4 t l c (rX t (n7 l c) g m).after (vV (n7 l c) (rX t (n7 l c) g m) m) (out++[rX t (n7 l c) g m]):=rfl
theorem UZ {t:Types}{s:Stp26}(h:oC t s=0):zY t s=b5 t s:=by
 unfold oC at h;split at h
 .cases h
 .rename_i q;unfold zY;rw [if_neg q]
theorem Gj (t:Types)(ht:t.ok)(l:List Stp26)(hl:l.length<=1000000)(hr:∀ s∈l,s.C.ok):Pua 9 [t.d,.list (l.map Stp26.c)] (.tup [.list ((eG t l).1.map Stp26.c),(eG t l).2.1.d,dI (eG t l).2.2]):=by
 have kL:=Mv t ht l hl hr;have hCh:=λh=>P4 (t:=t) (l:=l) h;obtain ⟨e0,he0⟩:∃ e,e=t7 t l:=⟨_,rfl⟩;obtain ⟨G,hG⟩:=fD (y4 t l l.length (oW l) (qW (oW l).j) []);have hU:eG t l=if e0≠0 then ([],⟨[],[]⟩,e0) else G:=by rw [hG,he0];rfl
 rw [<- he0] at kL hCh;rw [hU];clear he0 hU;refine Tz.pK ⟨λt=>t==5||t==8||t==9||t==10||t==12||t==14||t==15,λr=>match r with|10=>[(0,9),(3,9),(4,9),(5,9)]|13=>[(0,13),(3,13),(4,13),(5,13),(6,13),(7,13),(8,13),(0,14),(3,14),(4,14),(5,14),(6,14),(7,14),(8,14),(13,14)]|17=>[(2,3)]|_=>[]⟩ func9 rfl (λQ hQ=>?_);have Y:=xa2 @Part.d.eq_1 @Part.c.eq_1 @Host.d.eq_1 @Host.c.eq_1;refine lS (h:=aB (kL) wl ?_);refine lS (h:=wq (λh2=>?_) λh2=>?_)
 .exact lS (h:=hQ _ _ (by simp [go_sem,show ¬ e0=0 by simpa using h2,Part.d,Part.c,dLI]))
 .have hE0:e0=0:=by simpa using h2
  have hC:=hCh hE0;have hpos:=hC.pos;have hfew:=hC.bg;rw [if_neg (by omega:¬ e0≠0)] at hQ;have hpi:((l.length:Int) - 1).toNat=l.length - 1:=aD;have hll:l.length - 1<l.length:=aD;obtain ⟨g0,hg0⟩:∃ g,g=oW l:=⟨_,rfl⟩;have hla:(l[l.length - 1]'hll).after=g0:=by rw [hg0];unfold oW;rw [qR hll]
  have hst:=Uj hC hr;rw [<- hg0] at hst hG;have hgs:g0.j.h.length<=100000/\g0.j.i.length<=100000:=by
   have hm:=aC hll;have hk:=hC.dg _ hll;rw [qR hll] at hk;obtain ⟨q1,K,_⟩:=oQ (hr _ hm) hk;have q2:=congrArg Stp26.after q1;rw [hla] at q2;rw [q2];have a1:=K.nn;have a2:=K.ne;exact ⟨by show (bW t _ _ _).j.h.length<=_;omega,by show (bW t _ _ _).j.i.length<=_;omega⟩
  have kN:=wV g0.j hgs.1 hgs.2;have e1:(⟨gB g0.j.h.length,gB g0.j.i.length⟩:Part)=qW g0.j:=rfl;rw [e1] at kN;obtain ⟨m0,hm0⟩:∃ m,m=qW g0.j:=⟨_,rfl⟩;rw [<- hm0] at kN hst hG;have Y:=xa5 Y hpi (aA hll) hla @Stp26.c.eq_1 @Rule.c.eq_1 @Mat.c.eq_1;refine oL (h:=aB (kN) wl ?_);refine oL (h:=aY (λc e H=>∃ out:List Stp26,∃ g:Host,∃ m:Part,(e 2=.adr t.c/\e 1=.list (l.map Stp26.c)/\e 5=.ptr 0 1 0 0/\e 8=.ptr 1 1 0 0/\e 9=.ptr 2 1 0 0/\e 10=.own 3 out.length/\e 11=.int .i64 ((c:Int) - 1))/\(H.get 0=some ⟨58,2,[[.nil,.nil]],false⟩)/\(0<H.next)/\(H.get 1=some ⟨68,3,[[dLI g.j.h,.list (g.j.i.map Edge.c),.list (g.k.map cL)]],false⟩)/\(1<H.next)/\(H.get 2=some ⟨58,2,[[dLI m.h,dLI m.i]],false⟩)/\(2<H.next)/\(H.get 3=some ⟨70,38,out.map Stp26.c,false⟩)/\(3<H.next)/\(c<=l.length)/\(Zo l c g m)/\(y4 t l c g m out=G)/\(out.length+c<=l.length)) (λc=>c) l.length ⟨([]),g0,m0,wg,wn,wn,wn,wn,wn,wn,wn,wn,wi,(by exact hst),(by exact hG.symm),(by simp)⟩ λI0 hI0 c e H hi0=>?_);obtain ⟨out,g,m,E0,g0_0,n0_0,g1_0,n1_0,g2_0,n2_0,g3_0,n3_0,hc,hI,hF,hol⟩:=hi0;have Y:=xa2 Y @Part.c.eq_1 @Host.c.eq_1 (xb0 @Stp26.c.eq_1 @Rule.c.eq_1 @Mat.c.eq_1 E0 g0_0 (bL n0_0) g1_0 (bL n1_0) g2_0 (bL n2_0) g3_0 (bL n3_0));refine lS (h:=wq (λh8=>?_) λh8=>?_)
  .obtain ⟨j,hj⟩:∃ j,c=j+1:=⟨c - 1,aD⟩;have hjl:j<l.length:=aD;have hcj:(c:Int) - 1=(j:Int):=aD;obtain ⟨s,hs⟩:=fD (l[j]);have hsi:n7 l j=s:=by rw [hs,qR hjl]
   have hm:s∈l:=by rw [hs];exact aC _
   have hk:rC t s=true:=by rw [<- hsi];exact hC.dg j hjl
   have hsr:=hr s hm;obtain ⟨q1,K,hUO⟩:=oQ hsr hk;have hIs0:HIso g s.after m:=by
    rcases hI with h|h
    .omega
    .rw [hj,(aD:j+1 - 1=j),hsi] at h;exact h
   have hz:=hUO.Y;have hc1:=hUO.c1;have hc3:=hUO.c3;rw [hj,G6,hsi] at hF;obtain ⟨R,hR⟩:=fD (zY t s);obtain ⟨e1,he1⟩:∃ e,e=oC t s:=⟨_,rfl⟩;obtain ⟨er,her⟩:∃ e,e=Nf t s g m:=⟨_,rfl⟩;obtain ⟨v,hv⟩:=fD (if er=0 then rX t s g m else lO);obtain ⟨p,hp⟩:=fD (if er=0 then vV s (rX t s g m) m else ⟨[],[]⟩);have kV:=y6 t ht s hUO;have kU:e1=0->Pua 24 [t.d,.agg s.c,R.d,g.d,m.d] (.tup [.agg v.c,p.d,dI er]):=λh0=>by
    have hq:=CQ t ht s (b5 t s) (tO hsr hUO) g m aD hc3 (v:=rX t s g m) (er:=er) rfl her (λh1=>(HI hsr hk hIs0 (by rw [<- her];exact h1)).1);rw [hR,UZ (by rw [<- he1];exact h0),hv,hp];exact hq
   have hRd:=λh1:er=0=>(HI hsr hk hIs0 (by rw [<- her];exact h1)).2.2.2;rw [<- hR,<- he1] at kV;rw [<- he1,<- her] at hF;simp only [Stp26.c,Rule.c,Mat.c,Host.c,dE,dF] at kV kU;unfold Host.d Host.c Part.d Part.c at kU;have Y:=xa3 Y h8 hcj (aA hjl) (Eq.symm hs);refine oL (h:=aI (kV) wl ?_);refine oL (h:=wq (λh11=>?_) λh11=>?_)
   .have hne:¬ e1=0:=by simpa using h11
    rw [if_pos hne] at hF;exact lS (h:=hQ _ _ (by simp [go_sem,<- hF,Part.d,Part.c,dLI]))
   .have hz1:e1=0:=by simpa using h11
    rw [if_neg (by omega:¬ e1≠0)] at hF;refine oL (h:=aI (kU (eQ h11)) wl ?_);refine oL (h:=wq (λh14=>?_) λh14=>?_)
    .have hne:¬ er=0:=by simpa using h14
     rw [if_pos hne] at hF;exact lS (h:=hQ _ _ (by simp [go_sem,<- hF,Part.d,Part.c,dLI]))
    .have hz2:er=0:=by simpa using h14
     rw [if_neg (by omega:¬ er≠0)] at hF;rw [if_pos hz2] at hv hp;have hIs:=hRd hz2;rw [<- hp,<- hv] at hF hIs;rw [<- hsi] at hIs;exact oL (h:=wx hI0 j ⟨((out++[v])),v.after,p,wg,wn,wn,wn,wn,wn,wn,wn,wn,wj,(by exact VP hC hjl hIs),(by exact hF),(by simp;omega)⟩)
  .have hc0:c=0:=aD;rw [hc0] at hF;have hFF:(out,m,(0:Int))=G:=hF;exact lS (h:=hQ _ _ (by simp [go_sem,Y,<- hFF,Part.d,Part.c,dLI]))
theorem LB {l:W3}{n:Nat}(d:l.length=n)(c:∀ x∈l,0<=x/\x<n)(f:l.Nodup):(∀ x∈iX l,0<=x/\x<n)/\(iX l).Nodup:=by
 have e:=IB l;refine ⟨λx h=>?_,?_⟩
 .obtain ⟨i,g,rfl⟩:=oX h;exact (rO d c f (y:=(i:Int)) aD aD).1
 .rw [eX,dD];intro i j g k m o;have a:=(rO d c f (y:=(i:Int)) aD aD).2;have b:=(rO d c f (y:=(j:Int)) aD aD).2;rw [lU g] at a;rw [lU k,<- o,a] at b;omega
theorem HIso.dE {a b:Host}{s:Part}(I:HIso a b s)(l:graphF a.j=0):HIso b a ⟨iX s.h,iX s.i⟩:=by
 have nl:=I.nl.trans I.nn;have el:=I.el.trans I.en;obtain ⟨k,j⟩:=LB nl I.ni I.nd;obtain ⟨n,m⟩:=LB el I.ei I.ed;have i:∀ p:Int,0<=p->p<b.j.h.length->_:=λp e d=>rO nl I.ni I.nd e d;refine ⟨(IB _).trans nl,(IB _).trans el,I.nn.symm,I.en.symm,I.bv,I.av,by rw [I.nn];exact k,by rw [I.en];exact n,j,m,λp e d=>?_,λp e d=>?_,λp e d=>?_⟩
 .obtain ⟨c,f⟩:=i p e d;have:=I.ty _ c.1 (by rw [I.nn];exact c.2);rw [f] at this;exact this.symm
 .obtain ⟨c,f⟩:=rO el I.ei I.ed e d;have h:iA (iX s.i) p<a.j.i.length:=by rw [I.en];exact c.2
  have g:=vM l c.1 h;have:=I.eg _ c.1 h;rw [f] at this;rw [this];simp only;rw [(Dq nl I.ni I.nd g.1.1 (by rw [<- I.nn];exact g.1.2)).2,(Dq nl I.ni I.nd g.2.1.1 (by rw [<- I.nn];exact g.2.1.2)).2]
 .obtain ⟨c,f⟩:=i p e d;have:=I.va _ c.1 (by rw [I.nn];exact c.2);rw [f] at this;exact this.symm
section
variable {t:Types} {r:Rule} {h g:Host} {m:Mat} {m0:Part}
theorem StepOk.c7 (K:StepOk t r h m)(I:HIso g (b9 t r h m) m0)(i:fX t g=0)(c:r.ok)(n:ruleF t r=0)(j:(g6 t (aO t r h m) m.m.h.length).length<=10) :
  jU t (b5 t (aO t r h m)) g (rW (aO t r h m) m0)=0:=by
 have hR:=tO (s:=aO t r h m) c (K.bP c);have G:=lE i;have A:=lE K.after;have J:=I.dE G.gg;have v:rW (aO t r h m) m0=⟨Dt ⟨iX m0.h,iX m0.i⟩ (Abs.c7 r h m),[]⟩:=by
  show (⟨⟨(Abs.c7 r h m).h.map (idx m0.h),(Abs.c7 r h m).i.map (idx m0.i)⟩,[]⟩:Mat)=⟨⟨_,_⟩,[]⟩;rw [bJ (l:=(Abs.c7 r h m).h) λy b=>Dw (I.nl.trans I.nn) I.ni I.nd (K.S.ak y b).1 (K.S.ak y b).2,
   bJ (l:=(Abs.c7 r h m).i) λy b=>Dw (I.el.trans I.en) I.ei I.ed (K.S.au y b).1 (K.S.au y b).2]
 rw [v];obtain ⟨p,d⟩:=fD (Dt ⟨iX m0.h,iX m0.i⟩ (Abs.c7 r h m));have k:∀ {inj:Bool},(inj=true->(Abs.c7 r h m).h.Nodup/\(Abs.c7 r h m).i.Nodup)->checkE t (Ff t r h m) g.j p inj=0:=λq=>by rw [d];exact J.checkE A.gg G (K.bQ q)
 have a:pF t (b5 t (aO t r h m)) g ⟨p,[]⟩=0:=by
  have x:checkE t (b5 t (aO t r h m)).left.j g.j p (b5 t (aO t r h m)).inj=0:=k λf=>by
   have e:(decide (Abs.c7 r h m).h.Nodup&&decide (Abs.c7 r h m).i.Nodup)=true:=f;simpa using e
  have w:checkE t (b5 t (aO t r h m)).left.j g.j p false=0:=k λf=>by cases f
  have u:cX t (b5 t (aO t r h m)).left=0:=tW K.S.hR.vf K.ul.1 K.ul.2.1;have o:dV t (b5 t (aO t r h m)).left g p=([],0):=by
   unfold dV;rw [if_neg (by rw [u];simp),if_neg (by rw [i];simp),if_neg (by rw [w];simp)];rfl
  unfold pF;simp only;rw [if_neg (by rw [x];simp),o,if_neg dB,if_neg dB,d,J.dv K.S.ak];exact J.comp G.gg K.cB
 rw [<- d];exact (BackI.mk K I (by rw [d];rfl) (by rw [d];rfl) (Hn (KU hR (K.b4 n j)) G a)).dD n j i a
end
theorem UY {t:Types}{s:Stp26}{g:Host}{m:Part}(e:s.C.ok)(f:rC t s=true)(I:HIso g s.after m)(i:fX t g=0)(a:oC t s=0):Nf t s g m=0:=by
 obtain ⟨h,K,_⟩:=oQ e f;have j:ruleF t s.C=0:=by
  have d:=Nk f;unfold jU at d;split at d
  .exact absurd d (by assumption)
  .rename_i h1;exact (xI (eQ h1)).1
 obtain ⟨r,b,x,c⟩:∃ r b x,s=aO t r b x:=⟨_,_,_,h⟩;subst c;refine K.c7 I i e j ?_;unfold oC at a;split at a
 .cases a
 .rename_i h2;exact Nat.le_of_not_lt h2
theorem KI {t:Types}{l:List Stp26}(o:Chain t l)(q:∀ s∈l,s.C.ok){g0:Host}:∀ (c:Nat),c<=l.length->∀ (g:Host) (m:Part) (a:List Stp26),Chn t g0 a g->fX t g=0->HIso g (if c=0 then (n7 l 0).B else (n7 l (c - 1)).after) m ->
  ((y4 t l c g m a).2.2=0\/(y4 t l c g m a).2.2=3)/\((y4 t l c g m a).2.2=0->∃ g',Chn t g0 (y4 t l c g m a).1 g'/\fX t g'=0/\(y4 t l c g m a).1.length=a.length+c/\HIso g' (n7 l 0).B (y4 t l c g m a).2.1)
 | 0,_,g,m,a,h,hg,I=>⟨.inl rfl,λ_=>⟨g,h,hg,rfl,I⟩⟩
 | c+1,hc,g,m,a,h,hg,I=>by
  have hm:n7 l c∈l:=by rw [qR aD];exact aC _
  have k:=o.dg c aD;have b:=q _ hm;rw [if_neg aD,(aD:c+1 - 1=c)] at I;rw [G6];by_cases d:oC t (n7 l c)=0
  .have he:=UY b k I hg d;have R:=(HI b k I he).2.2.2;rw [if_neg aD,if_neg aD];have p:rX t (n7 l c) g m=aO t (b5 t (n7 l c)) g (rW (n7 l c) m):=by unfold rX eU;unfold Nf at he;rw [if_pos he]
   have j:=tO b (oQ b k).2.2;have f:rC t (rX t (n7 l c) g m)=true:=by rw [p];exact Wj he
   have e:(rX t (n7 l c) g m).C.ok:=by rw [p];exact j
   have v:(rX t (n7 l c) g m).B=g:=by rw [p];rfl
   have n:fX t (rX t (n7 l c) g m).after=0:=by
    obtain ⟨u,K,_⟩:=oQ e f;rw [u];exact K.after
   obtain ⟨B,A⟩:=KI o q c aD (rX t (n7 l c) g m).after (vV (n7 l c) (rX t (n7 l c) g m) m) (a++[rX t (n7 l c) g m])
    (Chn.cC e f (by rw [v];exact h)) n (by
     by_cases r:c=0
     .subst r;exact R
     .rw [if_neg r,o.dO c aD aD];exact R)
   refine ⟨B,λi=>?_⟩;obtain ⟨g',z,y,x,w⟩:=A i;exact ⟨g',z,y,by rw [x,aH,mV];omega,w⟩
  .rw [if_pos d];refine ⟨.inr ?_,λi=>absurd i d⟩;show oC t (n7 l c)=3;unfold oC at d ⊢;split at d
   .rename_i h2;rw [if_pos h2]
   .exact absurd rfl d
theorem NP {t:Types}{l:List Stp26}(b:(cW t).2=0)(x:0<l.length)(c:∀ s∈l,s.C.ok)(d:∀ i,i<l.length->rC t (n7 l i)=true)(a:∀ i,0<i->i<l.length->(n7 l (i - 1)).after=(n7 l i).B) :
  ((eG t l).2.2=0\/(eG t l).2.2=3)/\((eG t l).2.2=0->∃ g',Chn t (oW l) (eG t l).1 g'/\graphF g'.j=0/\(eG t l).1.length=l.length/\HIso g' (n7 l 0).B (eG t l).2.1):=by
 by_cases f:30<l.length
 .have e:t7 t l=3:=by unfold t7;rw [if_neg (by rw [b];simp),if_neg aD,if_pos f]
  unfold eG;rw [if_pos (by rw [e];simp),e];exact ⟨.inr rfl,λh=>by cases h⟩
 .have hz:bU (Gd t l) 0 l.length=0:=iK _ _ λi _ y=>by
   unfold Gd;rw [if_neg (by rw [d i aD];simp),if_neg];rintro ⟨o,n⟩;exact n (a i o aD)
  have e:t7 t l=0:=by unfold t7;rw [if_neg (by rw [b];simp),if_neg aD,if_neg f,hz]
  have m:=P4 e;have k:n7 l (l.length - 1)∈l:=by rw [qR aD];exact aC _
  obtain ⟨j,K,_⟩:=oQ (c _ k) (d (l.length - 1) aD);have g:fX t (oW l)=0:=by unfold oW;rw [j];exact K.after
  obtain ⟨w,v⟩:=KI (g0:=oW l) m c l.length (aZ _) (oW l) (qW (oW l).j) [] rfl g (by rw [if_neg aD];exact A0 (lE g));unfold eG;rw [if_neg (by rw [e];simp)];refine ⟨w,λh=>?_⟩;obtain ⟨g',u,r,q,p⟩:=v h;exact ⟨g',u,(lE r).gg,by simpa using q,p⟩
theorem Ki (d:Dr27)(t:Types)(l L:List Stp26)(j:Bool)(p:Part)(e:Int)(g0 S:Host)(f:Nat->Host)
  (Z:Pua 5 [.agg d.c] (.tup [t.d,.list (l.map Stp26.c),.bool j]))
  (W:j=true->0<l.length->Pua 9 [t.d,.list (l.map Stp26.c)] (.tup [.list (L.map Stp26.c),p.d,dI e]))
  (U:j=true->0<l.length->e=0\/e=3)
  (K:∀ h:l.length - 1<l.length,l[l.length - 1].after=g0)
  (J:∀ h:0<l.length,l[0].B=S)
  (T:f 0=g0) (E:∀ i (h:i<L.length),L[i].after=f (i+1))
  (X:j=true->0<l.length->e=0->∀ i (h:i<L.length),Pua 10 [L[i].B.d,(f i).d] (.bool true))
  (cK:j=true->0<l.length->e=0->∀ i (h:i<L.length),Pua 11 [t.d,.agg L[i].c] (.bool true))
  (V:j=true->0<l.length->e=0->L.length=l.length)
  (cI:j=true->0<l.length->e=0->Pua 8 [(f L.length).d,S.d,p.d] (.bool true)) :
  Pua 4 [.agg d.c] (.bool true):=by
 refine Tz.pK ⟨λt=>t==3||t==7||t==9||t==11,λ_=>[]⟩ func4 rfl (λQ M=>?_);have Y:=xa9 @Dr27.c.eq_1 @Dr26.c.eq_1 @Dr24.c.eq_1 @Dr15.c.eq_1 @Host.d.eq_1 @Host.c.eq_1 @Mat.c.eq_1 @Rule.c.eq_1 @Stp26.c.eq_1 @Part.d.eq_1 @Part.c.eq_1;refine lS (h:=aB ((by have P:=Z;simp only [Dr27.c,Dr26.c,Dr24.c,Dr15.c,dE,dF] at P;exact P)) wl ?_);refine lS (h:=?_);repeat first|intro _|refine ⟨gX,?_⟩
 refine aB (vH) wl ?_;refine lS (h:=?_);repeat first|intro _|refine ⟨gX,?_⟩
 refine wq (λo=>?_) λo=>?_
 .refine lS (h:=aB (vH) wl ?_);have Y:=wa Y o;exact lS (h:=M _ _ wy)
 .have b:j=true:=by cases j<;>simp at o ⊢
  have a:0<l.length:=by cases l<;>simp [b] at o ⊢
  have Y:=wa Y a;refine lS (h:=aB (W b a) wl ?_);refine lS (h:=wq (λx=>?_) λx=>?_)
  .have he3:e=3:=by rcases U b a with h|h;exact absurd h (eQ x);exact h
   have Y:=xa1 Y a he3;have Y:=xa1 Y o x;exact lS (h:=M _ _ wy)
  .have he0:e=0:=by simpa using x
   have D:((l.length:Int) - 1).toNat=l.length - 1:=aD;have w:l.length - 1<l.length:=aD;have G:=K w;have F:=J a;have N:=V b a he0;have C:=cI b a he0;have Y:=xa2 Y D (aA w) G;refine lS (h:=?_);repeat first|intro _|refine ⟨gX,?_⟩
   refine aY (λi e H=>∃ g:Host,(e 3=.ptr 0 1 0 0/\e 4=.list (l.map Stp26.c)/\e 6=.list (L.map Stp26.c)/\e 7=.ptr 1 1 0 0/\e 9=.ptr 2 1 0 0/\e 48=.list (L.map Stp26.c)/\e 49=dI L.length/\e 50=dI i)/\(H.get 0=some ⟨43,2,[[.list (t.h.map NodeTy.c),.list (t.i.map EdgeTy.c)]],false⟩)/\(0<H.next)/\(H.get 1=some ⟨58,2,[[dLI p.h,dLI p.i]],false⟩)/\(1<H.next)/\(H.get 2=some ⟨68,3,[[dLI g.j.h,.list (g.j.i.map Edge.c),.list (g.k.map cL)]],false⟩)/\(2<H.next)/\(i<=L.length)/\(g=f i)) (λi=>L.length - i) 0 ⟨g0,wg,wn,wn,wn,wn,wn,wn,wi,(by exact T.symm)⟩ λI0 O i e H I=>?_;obtain ⟨g,E0,A,u,z,r,y,q,hi,n⟩:=I;have Y:=xa6 Y E0 A (bL u) z (bL r) y (bL q);refine lS (h:=wq (λk=>?_) λk=>?_)
   .obtain ⟨s,R⟩:=fD (L[i]);have m:=X b a he0 i k;have B:=cK b a he0 i k;have v:=E i k;rw [<- R] at m B v;rw [<- n] at m;have Y:=xa2 Y k (aA k) (Eq.symm R);refine lS (h:=?_);repeat first|intro _|refine ⟨gX,?_⟩
    refine aB (m) wl ?_;refine lS (h:=?_);repeat first|intro _|refine ⟨gX,?_⟩
    refine aK (λn=>B) (λn=>wl) ?_;refine lS (h:=?_);repeat first|intro _|refine ⟨gX,?_⟩
    exact wx O (i+1) ⟨s.after,wg,wn,wn,wn,wn,wn,wn,wj,(by exact v)⟩
   .have hiL:i=L.length:=aD;rw [<- hiL,<- n] at C;have Y:=xa3 Y N (aA a) F hiL;refine lS (h:=?_);repeat first|intro _|refine ⟨gX,?_⟩
    refine dO (λn=>C) (λn=>wl) ?_;refine lS (h:=?_);repeat first|intro _|refine ⟨gX,?_⟩
    have Y:=xa2 Y o x k;exact M _ _ wy
theorem wD (d:Dr27):Pua 4 [.agg d.c] (.bool true):=by
 obtain ⟨t,M,ok,z,r⟩:=IA d;have a:ok=true->0<M.length->t.ok/\(∀ s∈M,s.C.ok)/\((eG t M).2.2=0\/(eG t M).2.2=3)/\((eG t M).2.2=0->∃ l,Chn t (oW M) (eG t M).1 l/\graphF l.j=0/\(eG t M).1.length=M.length/\HIso l (n7 M 0).B (eG t M).2.1)/\graphF (n7 M 0).B.j=0:=λe b=>by
  obtain ⟨k,_,g,l,w⟩:=r e;have f:=w.at.1;have q:∀ s∈M,s.C.ok:=λs v=>by
   obtain ⟨i,m,rfl⟩:=aQ v;have:=(f i m).2.1;rwa [qR m] at this
  obtain ⟨_,K,_⟩:=oQ (f 0 b).2.1 (f 0 b).2.2;obtain ⟨D,p⟩:=NP K.S.hR.vf b q (λi m=>(f i m).2.2) (λi y m=>by
   have:=(f i m).1;cases i with
   | zero=>exact absurd y (mS _)
   | succ i=>exact this.symm)
  exact ⟨k,q,D,p,K.S.ho.gg⟩
 have n:ok=true->0<M.length->(eG t M).2.2=0->(∀ i (h:i<(eG t M).1.length),(eG t M).1[i].B=T3 (oW M) (eG t M).1 i/\(eG t M).1[i].C.ok/\rC t (eG t M).1[i]=true):=λe b j i h=>by
  obtain ⟨l,o,_⟩:=(a e b).2.2.2.1 j;have:=o.at.1 i h;rwa [qR h] at this
 refine Ki d t M (eG t M).1 ok (eG t M).2.1 (eG t M).2.2 (oW M) (n7 M 0).B (T3 (oW M) (eG t M).1) z
  (λe b=>Gj t (a e b).1 M ?_ (a e b).2.1) (λe b=>(a e b).2.2.1) (λh=>by rw [<- qR h];rfl) (λh=>by rw [qR h]) rfl (λi h=>by rw [<- qR h];rfl)
  (λe b j i h=>?_) (λe b j i h=>?_) (λe b j=>?_) (λe b j=>?_)
 .exact dH (r e).2.1 aD
 .rw [(n e b j i h).1];have:=Fw (T3 (oW M) (eG t M).1 i) (T3 (oW M) (eG t M).1 i) (λi _ _=>Jl _);simpa using this
 .obtain ⟨_,p,u⟩:=n e b j i h;have E:=Nk u;have:=z8 t (a e b).1 _ p rfl rfl;have x:(decide (jU t (eG t M).1[i].C (eG t M).1[i].B (eG t M).1[i].V=0)&&decide (eU t (eG t M).1[i].C (eG t M).1[i].B (eG t M).1[i].V=(eG t M).1[i]))=true:=u;rw [x] at this;exact this
 .obtain ⟨l,_,_,B,_⟩:=(a e b).2.2.2.1 j;exact B
 .obtain ⟨l,o,C,_,A⟩:=(a e b).2.2.2.1 j;rw [o.at.2];exact HL _ _ _ A C (a e b).2.2.2.2
end Go.Abs
end

/- The abstraction layer, part S: whole bodies, functions, cont -/
import Derived.Test.YthalajhajpjjeaaGreatZgAD
set_option linter.unusedVariables false
set_option linter.unusedSimpArgs false
section
namespace Go.Abs
abbrev dJ:=Nat->D
structure Cfg where
 own:Nat->Bool
 sp:Nat->List (Nat × Nat)
def GH (H:AHeap)(id i off:Nat)(ty sz:Nat):AHeap :=
 match H.get id with
 | some k=>(H.put id { k with es:=k.es.set i ((k.es[i]?.getD []).set off (.own H.next 0)) }).push H.next ⟨ty,sz,[],false⟩
 | none=>H
def AHeap.drop (H:AHeap)(id:Nat):AHeap:=⟨H.next,H.al,λi=>if i=id then none else H.get i⟩
def A9 (H:AHeap)(id i off q hi:Nat):AHeap :=
 match H.get id,H.get q with
 | some k,some kq=>(((H.drop q).push H.next ⟨kq.ty,kq.sz,kq.es.take hi,false⟩).put id { k with es:=k.es.set i ((k.es[i]?.getD []).set off (.own H.next hi)) })
 | _,_=>H
inductive Ghosts:AHeap->AHeap->Prop
 | refl (H:AHeap):Ghosts H H
 | trunc {H H1:AHeap} (h:Ghosts H H1) (id i off q hi:Nat) (k kq:Blk) (c:List D) (hk:H1.get id=some k) (hf:k.fz=false) (hc:k.es[i]?=some c) (hq:H1.get q=some kq) (hn:c[off]?=some (.win q kq.es.length 0 hi)) (hqf:kq.fz=false) (hne:id≠q):Ghosts H (A9 H1 id i off q hi)
 | step {H H1:AHeap} (h:Ghosts H H1) (id i off ty sz:Nat) (k:Blk) (c:List D) (hk:H1.get id=some k) (hf:k.fz=false) (hc:k.es[i]?=some c) (hn:c[off]?=some .nil):Ghosts H (GH H1 id i off ty sz)
def tC (next:dJ->AHeap->Prop)(Q:Exit->dJ->AHeap->Prop):Exit->dJ->AHeap->Prop
 | .normal,e,H=>next e H
 | ex,e,H=>Q ex e H
def Bn (id:Nat)(Q:Exit->dJ->AHeap->Prop):Exit->dJ->AHeap->Prop
 | .exit id',e,H=>if id'=id then Q .normal e H else Q (.exit id') e H
 | ex,e,H=>Q ex e H
def oN (P:Program)(c:Cfg):Code->(Exit->dJ->AHeap->Prop)->dJ->AHeap->Prop
 | .skip,Q,e,H=>Q .normal e H
 | .region id ops dr,Q,e,H =>
  if dr then jZ P c.own ops (c.sp id) H.next 0 ops.toList [] e { H with next:=H.next+ops.size } (Q .normal)
  else nC P c.own ops ops.toList e H (Q .normal)
 | .seq a b,Q,e,H=>oN P c a (tC (oN P c b Q) Q) e H
 | .cond x a b,Q,e,H=>match eZ e x with
  | .bool t=>(t=true->oN P c a Q e H)/\(t=false->oN P c b Q e H)
  | _=>False
 | .block id b,Q,e,H=>oN P c b (Bn id Q) e H
 | .loop b,Q,e,H=>∃ I:Nat->dJ->AHeap->Prop,(∃ H',Ghosts H H'/\∃ k,I k e H')/\∀ k e' H',I k e' H'->oN P c b (tC (λe'' H''=>∃ H3,Ghosts H'' H3/\∃ k',k'<k/\I k' e'' H3) Q) e' H'
 | .exit id,Q,e,H=>Q (.exit id) e H
 | .ret,Q,e,H=>Q .ret e H
 | _,_,_,_=>False
def pE (c:Cfg)(n:Nat):Code->Bool
 | .region id ops dr=>(ops.toList.all λo=>qV n o.dst)&&(!dr||vZ c.own ops (c.sp id))
 | .seq a b=>pE c n a&&pE c n b
 | .cond _ a b=>pE c n a&&pE c n b
 | .block _ b=>pE c n b
 | .loop b=>pE c n b
 | _=>true
section
variable {P:Program} {c:Cfg} {n:Nat} {M0:Nat→Prop}
theorem iK {x:Code}{Q Q':Exit->Act->World->Prop}{a:Act}{w:World}(h:x.wp P Q a w)(hq:∀ e a w,Q e a w->Q' e a w):x.wp P Q' a w:=wp_mono h hq
theorem f9 {p:Nat->Prop}(h:∃ k,p k):∃ k,p k/\∀ j,j<k->¬ p j:=by
 obtain ⟨k,hk⟩:=h
 induction k using Nat.strongRecOn with
 | _ k ih =>
  grind
def Ql (n:Nat)(M0:Nat->Prop)(H0:AHeap)(σ0:Nat->Option Ow)(w0:World)(Q:Exit->dJ->AHeap->Prop)(ex:Exit)(a:Act)(w:World):Prop:=Came n M0 H0 σ0 w0 (Q ex) a w
theorem wQ {sz:Nat}(d:D)(off:Nat)(c:List D):∀ (es:List (List D)) (i:Nat),(∀ c∈es,c.length=sz)->es[i]?=some c->off<sz->(es.set i (c.set off d)).flatten=es.flatten.set (i * sz+off) d
 | [],i,_,h,_=>by simp at h
 | a :: es,0,hl,h,ho=>by
  simp at h;subst h
  have:=hl a bW
  simp only [uU,eU,Nat.zero_mul,eM]
  rw [List.set_append_left _ _ aD]
 | a :: es,i+1,hl,h,ho=>by
  have ha:=hl a bW
  simp at h
  have ih:=wQ d off c es i (λc hc=>hl c (by simp [hc])) h ho
  simp only [DE,eU,ih]
  rw [mG _ _ (by rw [Nat.add_mul];omega)]
  congr 2
  rw [ha,Nat.add_mul];omega
theorem MZ {H:AHeap}{σ:Nat->Option Ow}{w:World}(B:Rel M0 H σ w){f i a ty sz:Nat}{k:Blk}{m:List D}(z:H.get f=some k)(X:k.fz=false)(r:k.es[i]?=some m)(hn:m[a]?=some .nil) :
  ∃ σ',Rel M0 (GH H f i a ty sz) σ' w/\Stp σ w σ' w/\Keeps (dA M0 H σ) σ H.al w (dA M0 (GH H f i a ty sz) σ') σ' (GH H f i a ty sz).al w:=by
 have A:¬ H.al H.next:=λh=>oJ _ (B.nxt _ h)
 have I:H.al f:=bA λhn=>by rw [(B.top f hn).2] at z;cases z
 have y:f≠H.next:=λh=>A (h ▸ I)
 obtain ⟨S,R,M⟩:=Rel.push B H.next A (w':=w) rfl rfl rfl (bC _) (λ_ _=>rfl) ⟨ty,sz,[],false⟩ ⟨0,.slice none 0 0,sz,ty⟩ (λb hb=>by simp [Ow.block,Value.ownBlock] at hb) rfl rfl rfl (λc r=>by simp at r) []
  ⟨by simp,.inl ⟨rfl,rfl⟩⟩ bW ⟨rfl,λj u d hu=>by simp at hu⟩
 obtain ⟨o,U,l⟩:=B.lies f k z
 obtain ⟨N,t,C,v⟩:=l.row
 have G:(H.push H.next ⟨ty,sz,[],false⟩).get f=some k:=by simp [AHeap.push,y,z]
 have E:(λi=>if i=H.next then some (⟨0,.slice none 0 0,sz,ty⟩:Ow) else σ i) f=some o:=by simp [y,U]
 have n:=l.esz m (aK r)
 have g:a<o.esz:=by rw [<- n];exact (aM.1 hn).1
 have p:∀ c∈k.es.set i (m.set a (.own H.next 0)),c.length=o.esz:=λc K=>by
  rcases mW K with h|h
  .exact l.esz c h
  grind
 have J:=wQ (D.own H.next 0) a m k.es i l.esz r g
 obtain ⟨Q,P,O⟩:=Rel.put S G X E { k with es:=k.es.set i (m.set a (.own H.next 0)) } o ⟨rfl,rfl,rfl,bC _,λ_ _ _=>rfl⟩ (λb hb=>.inl hb) (.inl rfl) (by simp [l.ver]) l.ty l.sz p N (bX t) C (by
   have e:=v.keep M
   simp only
   rw [J]
   refine ⟨by simpa using e.len,λj u d hu q=>?_⟩
   rw [dZ] at q
   split at q
   .rename_i V
    split at q
    .cases q
     have x:k.es.flatten[j]?=some .nil:=by
      rw [<- V,mP k.es i m l.esz r a g];exact hn
     have T:=e.rep j u _ hu x
     cases T
     exact .own _ _ _ (.inl rfl) rfl λo' ho'=>by simp at ho';subst ho';exact .inr ⟨rfl,rfl⟩
    .cases q
   .exact e.rep j u d hu q)
 have W:GH H f i a ty sz=(H.push H.next ⟨ty,sz,[],false⟩).put f { k with es:=k.es.set i (m.set a (.own H.next 0)) }:=by
  simp only [GH,z,r,Option.getD_some]
  unfold AHeap.push AHeap.put
  grind
 rw [W]
 exact ⟨_,Q,R.trans P,M.trans O⟩
theorem CV {sz:Nat}:∀ (es:List (List D)) (n:Nat),(∀ c∈es,c.length=sz)->(es.take n).flatten=es.flatten.take (n * sz)
 | [],n,_=>by simp
 | a :: es,0,_=>by simp
 | a :: es,n+1,h=>by
  have ha:=h a bW
  rw [s4,eU,eU,CV es n λc hc=>h c (by simp [hc]),Nat.add_mul,Nat.one_mul,Nat.add_comm,<- ha,List.take_length_add_append]
theorem Qs {H:AHeap}{σ:Nat->Option Ow}{w:World}(hR:Rel M0 H σ w){q hi n:Nat}{kq:Blk}{oq:Ow}(hq:H.get q=some kq)(hqf:kq.fz=false)(hoq:σ q=some oq)(hn:¬ H.al n){v:Value}(hh:hi<=kq.es.length)(hv:S3 oq v kq.es.length 0 hi) :
  let σ':Nat->Option Ow:=λi=>if i=n then some ⟨hi,v,oq.esz,oq.ty⟩ else if i=q then none else σ i
  Rel M0 ((H.drop q).push n ⟨kq.ty,kq.sz,kq.es.take hi,false⟩) σ' w/\Stp σ w σ' w/\Keeps (dA M0 H σ) σ H.al w (dA M0 ((H.drop q).push n ⟨kq.ty,kq.sz,kq.es.take hi,false⟩) σ') σ' ((H.drop q).push n ⟨kq.ty,kq.sz,kq.es.take hi,false⟩).al w:=by
 intro σ'
 have hqal:H.al q:=bA λh=>by rw [(hR.top q h).1] at hoq;cases hoq
 have hqn:q≠n:=λe=>hn (e ▸ hqal)
 have hblk:∀ b,v.ownBlock=some b->oq.block=some b:=λb hb=>by
  rcases hv with ⟨_,rfl,_⟩|⟨b',cap,h1,h2,rfl⟩
  .simp [Value.ownBlock] at hb
  .simp only [Value.ownBlock] at hb
   simp only [Ow.block,h1,Value.ownBlock]
   rw [<- hb];split<;>rfl
 have hmut:∀ b,dA M0 ((H.drop q).push n ⟨kq.ty,kq.sz,kq.es.take hi,false⟩) σ' b->dA M0 H σ b:=by
  rintro b (hm|⟨i,k',o',hk',hf,ho',hb'⟩)
  .exact .inl hm
  .by_cases h1:i=n
   .simp only [σ',h1,if_true,bF] at ho'
    subst ho'
    exact .inr ⟨q,kq,oq,hq,hqf,hoq,hblk b hb'⟩
   .by_cases h2:i=q
    .simp only [σ',h2,if_false,if_true,hqn] at ho';cases ho'
    .simp only [σ',h1,h2,if_false] at ho'
     simp only [AHeap.push,AHeap.drop,h1,h2,if_false] at hk'
     exact .inr ⟨i,k',o',hk',hf,ho',hb'⟩
 have hkeep:Keeps (dA M0 H σ) σ H.al w (dA M0 ((H.drop q).push n ⟨kq.ty,kq.sz,kq.es.take hi,false⟩) σ') σ' ((H.drop q).push n ⟨kq.ty,kq.sz,kq.es.take hi,false⟩).al w:=by
  refine ⟨λad u hm hu=>⟨λh=>hm (hmut _ h),hu⟩,λi o' hi' ho'=>?_,λi hi'=>.inr hi'⟩
  have h1:i≠n:=λe=>hn (e ▸ hi')
  by_cases h2:i=q
  .simp only [σ',h2,if_true,hqn,if_false] at ho';cases ho'
  .simp only [σ',h1,h2,if_false] at ho'
   exact ⟨o',ho',.inl rfl⟩
 have hold:∀ {i o'},i≠n->σ' i=some o'->i≠q/\σ i=some o':=λ {i o'} h1 ho'=>by
  by_cases h2:i=q
  .simp only [σ',h2,if_true,hqn,if_false] at ho';cases ho'
  .simp only [σ',h1,h2,if_false] at ho';exact ⟨h2,ho'⟩
 obtain ⟨o2,ho2,l⟩:=hR.lies q kq hq
 rw [hoq] at ho2;cases ho2
 obtain ⟨xs,hrow,hx1,hrep⟩:=l.row
 refine ⟨⟨λi hi'=>?_,λi hi'=>?_,λi k' hk'=>?_,λi j oi oj b hi' hj' hbi hbj=>?_,λi oi b hi' hbi=>?_,hR.m0⟩,⟨rfl,rfl,rfl,bC _,λ_ _ _=>rfl,λi o' b ho' hb'=>?_⟩,hkeep⟩
 .have hi2:¬ (i=n\/H.al i):=hi'
  have h1:i≠n:=λe=>hi2 (.inl e)
  have h2:i≠q:=λe=>hi2 (.inr (e ▸ hqal))
  simp only [σ',AHeap.push,AHeap.drop,h1,h2,if_false]
  exact hR.top i λe=>hi2 (.inr e)
 .have hi2:i=n\/H.al i:=hi'
  have he:((H.drop q).push n ⟨kq.ty,kq.sz,kq.es.take hi,false⟩).next=if n<H.next then H.next else n+1:=rfl
  rw [he]
  rcases hi2 with rfl|hi2
  .by_cases h:i<H.next
   .rw [if_pos h];exact h
   .rw [if_neg h];omega
  .have:=hR.nxt i hi2
   by_cases h:n<H.next
   .rw [if_pos h];exact this
   .rw [if_neg h];omega
 .by_cases h1:i=n
  .simp only [AHeap.push,h1,if_true,bF] at hk'
   subst hk'
   refine ⟨⟨hi,v,oq.esz,oq.ty⟩,by simp [σ',h1],by simp;omega,l.ty,l.sz,λc hc=>l.esz c (dB hc),xs.take (hi * oq.esz),⟨?_,?_⟩,λu hu=>hx1 u (dB hu),?_⟩
   .have:=hrow.1
    have h2:hi * oq.esz<=kq.es.length * oq.esz:=fD _ hh
    simp only [c5]
    rw [Nat.min_eq_left hh,Nat.min_eq_left aD]
   .have hm:(kq.es.take hi).length=hi:=by simp;omega
    simp only [hm]
    rcases hv with ⟨h1,h2,h3⟩|⟨b',cap,h1,h2,h3⟩
    .exact .inl ⟨h2,h3⟩
    .rcases hrow.2 with ⟨hn0,_⟩|⟨g,cap',cur,e1,e2,e3,e4,e5,e6,e7⟩
     .rw [h1] at hn0;cases hn0
     .rw [h1] at e1;cases e1
      refine .inr ⟨b',cap,cur,?_,dY _,e3,aD,e5,e6,?_⟩
      .rw [h3];simp
      .rw [<- e7,List.take_take,Nat.min_eq_left (fD _ hh)]
   .have hr:=hrep.keep hkeep
    refine ⟨?_,λj u d hu hd=>?_⟩
    .simp only
     rw [CV kq.es hi l.esz]
     simp [hr.len]
    .simp only at hd
     rw [CV kq.es hi l.esz,b5] at hd
     rw [b5] at hu
     split at hd
     .rename_i hj;rw [if_pos hj] at hu;exact hr.rep j u d hu hd
     .cases hd
  .by_cases h2:i=q
   .simp only [AHeap.push,AHeap.drop,h2,if_false,if_true,hqn] at hk';cases hk'
   .simp only [AHeap.push,AHeap.drop,h1,h2,if_false] at hk'
    obtain ⟨o',ho',l'⟩:=hR.lies i k' hk'
    obtain ⟨xs',a1,a2,a3⟩:=l'.row
    exact ⟨o',by simp [σ',h1,h2,ho'],l'.ver,l'.ty,l'.sz,l'.esz,xs',a1,a2,a3.keep hkeep⟩
 .by_cases h1:i=n<;>by_cases h2:j=n
  .rw [h1,h2]
  .simp only [σ',h1,if_true,bF] at hi'
   subst hi'
   obtain ⟨h3,h4⟩:=hold h2 hj'
   exact absurd (hR.inj j q oj oq b h4 hoq hbj (hblk b hbi)) h3
  .simp only [σ',h2,if_true,bF] at hj'
   subst hj'
   obtain ⟨h3,h4⟩:=hold h1 hi'
   exact absurd (hR.inj i q oi oq b h4 hoq hbi (hblk b hbj)) h3
  .exact hR.inj i j oi oj b (hold h1 hi').2 (hold h2 hj').2 hbi hbj
 .by_cases h1:i=n
  .simp only [σ',h1,if_true,bF] at hi'
   subst hi'
   exact hR.lt q oq b hoq (hblk b hbi)
  .exact hR.lt i oi b (hold h1 hi').2 hbi
 .by_cases h1:i=n
  .simp only [σ',h1,if_true,bF] at ho'
   subst ho'
   exact .inr ⟨q,oq,hoq,hblk b hb'⟩
  .exact .inr ⟨i,o',(hold h1 ho').2,hb'⟩
theorem KN {H:AHeap}{σ:Nat->Option Ow}{w:World}(J:Rel M0 H σ w){f i a q e:Nat}{k kq:Blk}{s:List D}(G:H.get f=some k)(hf:k.fz=false)(L:k.es[i]?=some s)(R:H.get q=some kq)
  (hn:s[a]?=some (.win q kq.es.length 0 e)) (Q:kq.fz=false) (F:f≠q) :
  ∃ σ',Rel M0 (A9 H f i a q e) σ' w/\Stp σ w σ' w/\Keeps (dA M0 H σ) σ H.al w (dA M0 (A9 H f i a q e) σ') σ' (A9 H f i a q e).al w:=by
 have I:¬ H.al H.next:=λh=>oJ _ (J.nxt _ h)
 have X:H.al f:=bA λhn=>by rw [(J.top f hn).2] at G;cases G
 have r:f≠H.next:=λh=>I (h ▸ X)
 obtain ⟨K,C,lq⟩:=J.lies q kq R
 obtain ⟨o,ho,l⟩:=J.lies f k G
 obtain ⟨M,B,A,m⟩:=l.row
 have t:=l.esz s (aK L)
 have p:a<o.esz:=by rw [<- t];exact (aM.1 hn).1
 have n:k.es.flatten[i * o.esz+a]?=some (.win q kq.es.length 0 e):=by rw [mP k.es i s l.esz L a p];exact hn
 have U:i * o.esz+a<M.length:=by rw [m.len];exact (aM.1 n).1
 obtain ⟨v,N⟩:∃ v,M[i * o.esz+a]?=some v:=⟨_,aA U⟩
 have P:=m.rep _ v _ N n
 have E:v.oneCell'=true:=A v (aK N)
 obtain ⟨hh,hw⟩:e<=kq.es.length/\S3 K v kq.es.length 0 e:=by
  cases P
  rename_i _ _ V h
  refine ⟨V.2,?_⟩
  rcases h K C with h'|⟨_,h'⟩
  .have:=lq.ver;omega
  .exact h'
 obtain ⟨p1,p2,p3⟩:=Qs J R Q C I hh hw
 have W:((H.drop q).push H.next ⟨kq.ty,kq.sz,kq.es.take e,false⟩).get f=some k:=by simp [AHeap.push,AHeap.drop,r,F,G]
 have S:(λi=>if i=H.next then some (⟨e,v,K.esz,K.ty⟩:Ow) else if i=q then none else σ i) f=some o:=by simp [r,F,ho]
 have x:∀ c∈k.es.set i (s.set a (.own H.next e)),c.length=o.esz:=λc Z=>by
  rcases mW Z with h|h
  .exact l.esz c h
  grind
 have Y:=wQ (D.own H.next e) a s k.es i l.esz L p
 obtain ⟨q1,q2,q3⟩:=Rel.put p1 W hf S { k with es:=k.es.set i (s.set a (.own H.next e)) } o ⟨rfl,rfl,rfl,bC _,λ_ _ _=>rfl⟩ (λb hb=>.inl hb) (.inl rfl) (by simp [l.ver]) l.ty l.sz x M (bX B) A (by
   have g:=m.keep p3
   simp only
   rw [Y]
   refine ⟨by simpa using g.len,λj u d O y=>?_⟩
   rw [dZ] at y
   split at y
   .rename_i hj
    split at y
    .cases y
     rw [<- hj,N] at O
     cases O
     exact .own _ _ _ (.inl rfl) E λo' ho'=>by simp at ho';subst ho';exact .inr ⟨rfl,rfl⟩
    .cases y
   .exact g.rep j u d O y)
 have hg:A9 H f i a q e=((H.drop q).push H.next ⟨kq.ty,kq.sz,kq.es.take e,false⟩).put f { k with es:=k.es.set i (s.set a (.own H.next e)) }:=by
  simp only [A9,G,R,L,Option.getD_some]
 rw [hg]
 exact ⟨_,q1,p2.trans q2,p3.trans q3⟩
theorem wO {H H':AHeap}(j:Ghosts H H'){σ:Nat->Option Ow}{w:World}(l:Rel M0 H σ w):∃ σ',Rel M0 H' σ' w/\Stp σ w σ' w/\Keeps (dA M0 H σ) σ H.al w (dA M0 H' σ') σ' H'.al w:=by
 induction j with
 | refl=>exact ⟨σ,l,.refl _ _,.refl _ _ _ _⟩
 | trunc h id i off q hi k kq c hk hf hc hq hn hqf hne ih =>
  obtain ⟨σ1,g,f,e⟩:=ih
  obtain ⟨σ2,d,b,a⟩:=KN g hk hf hc hq hn hqf hne
  exact ⟨σ2,d,f.trans b,e.trans a⟩
 | step h id i off ty sz k c hk hf hc hn ih =>
  obtain ⟨σ1,g,f,e⟩:=ih
  obtain ⟨σ2,d,b,a⟩:=MZ (ty:=ty) (sz:=sz) g hk hf hc hn
  exact ⟨σ2,d,f.trans b,e.trans a⟩
theorem St.keeps {H H':AHeap}{σ σ':Nat->Option Ow}{w:World}{e:dJ}{a:Act}(hS:St n M0 H σ w e a)(hR:Rel M0 H' σ' w)(hk:Keeps (dA M0 H σ) σ H.al w (dA M0 H' σ') σ' H'.al w):St n M0 H' σ' w e a :=
 ⟨hR,λt=>(hS.env t).keep hk,hS.defers,hS.size⟩
theorem oI (hm:P.follows .mixedOrders=true):∀ (x:Code) (Q:Exit->dJ->AHeap->Prop) (e:dJ) (H:AHeap),oN P c x Q e H->pE c n x=true ->
  ∀ (σ:Nat->Option Ow) (w:World) (a:Act),St n M0 H σ w e a->x.wp P (Ql n M0 H σ w Q) a w
 | .skip,Q,e,H,h,_,σ,w,a,hS=>wp_skip ⟨e,H,σ,h,hS,.refl _ _,.refl _ _ _ _⟩
 | .region id ops dr,Q,e,H,h,hok,σ,w,a,hS=>by
  simp only [pE,aQ,cJ,c4,c9] at hok
  unfold oN at h
  cases dr with
  | false =>
   simp only [eX,if_false] at h
   exact wp_region_list (Hj ops.toList e H _ h hok.1 σ w a hS λa' w' hc=>hc)
  | true =>
   simp only [if_true] at h
   exact O1 hm (hok.2.resolve_left bW) hok.1 h hS λa' w' hc=>hc
 | .seq x y,Q,e,H,h,hok,σ,w,a,hS=>by
  simp only [pE,aQ] at hok
  unfold oN at h
  refine wp_seq (iK (oI hm x _ e H h hok.1 σ w a hS) λex a' w' hc=>?_)
  cases ex<;>first|exact hc|skip
  obtain ⟨e',H',σ',hq,hS',hst,hk⟩:=hc
  exact iK (oI hm y Q e' H' hq hok.2 σ' w' a' hS') λex a'' w'' hc'=>Came.trans hst hk hc'
 | .cond x y z,Q,e,H,h,hok,σ,w,a,hS=>by
  simp only [pE,aQ] at hok
  unfold oN at h
  have hx:=hS.envR.ev x
  cases hv:eZ e x<;>simp only [hv] at h<;>try (exact h.elim)
  rename_i t
  rw [hv] at hx
  have hc:a.eval x=.bool t:=by generalize a.eval x=v at hx;cases hx;rfl
  exact wp_cond_split hc (λht=>oI hm y Q e H (h.1 ht) hok.1 σ w a hS) λht=>oI hm z Q e H (h.2 ht) hok.2 σ w a hS
 | .block id b,Q,e,H,h,hok,σ,w,a,hS=>by
  unfold oN at h
  refine wp_block (iK (oI hm b _ e H h hok σ w a hS) λex a' w' hc=>?_)
  cases ex<;>first|exact hc|skip
  rename_i id'
  by_cases hid:id'=id
  .subst hid
   show (if id'=id' then Ql n M0 H σ w Q .normal a' w' else _)
   rw [if_pos rfl]
   exact Came.mono hc λe' H' h=>by
    have h':(if id'=id' then Q .normal e' H' else Q (.exit id') e' H'):=h
    rw [if_pos rfl] at h';exact h'
  .show (if id'=id then Ql n M0 H σ w Q .normal a' w' else Ql n M0 H σ w Q (.exit id') a' w')
   rw [if_neg hid]
   exact Came.mono hc λe' H' h=>by
    have h':(if id'=id then Q .normal e' H' else Q (.exit id') e' H'):=h
    rw [if_neg hid] at h';exact h'
 | .loop b,Q,e,H,h,hok,σ,w,a,hS=>by
  unfold oN at h
  obtain ⟨I,⟨H1,hgh,k0,h0⟩,hI⟩:=h
  obtain ⟨σ1,g1,g2,g3⟩:=wO hgh hS.rel
  have hS1:=hS.keeps g1 g3
  let J:Nat->Act->World->Prop:=λk a' w'=>Came n M0 H σ w (I k) a' w'
  have hJ0:J k0 a w:=⟨e,H1,σ1,h0,hS1,g2,g3⟩
  classical
  let μ:Act->World->Nat:=λa' w'=>if hx:∃ k,J k a' w' then Classical.choose (f9 hx) else 0
  refine wp_loop (λa' w'=>∃ k,J k a' w') μ ⟨k0,hJ0⟩ λa' w' hx=>?_
  have hμ:μ a' w'=Classical.choose (f9 hx):=by simp only [μ,dif_pos hx]
  obtain ⟨e',H',σ',hi,hS',hst,hk⟩:=(xQ (f9 hx)).1
  refine iK (oI hm b _ e' H' (hI _ e' H' hi) hok σ' w' a' hS') λex a'' w'' hc=>?_
  have hc':=Came.trans hst hk hc
  cases ex<;>first|exact hc'|skip
  obtain ⟨e2,H20,σ20,⟨H2,hgh2,k',hlt,hk'⟩,hS2,hst2,hk2⟩:=hc'
  obtain ⟨σ2,j1,j2,j3⟩:=wO hgh2 hS2.rel
  have rest:=And.intro (hS2.keeps j1 j3) (And.intro (hst2.trans j2) (hk2.trans j3))
  have hx2:∃ k,J k a'' w'':=⟨k',e2,H2,σ2,hk',rest⟩
  refine ⟨hx2,?_⟩
  have:μ a'' w''=Classical.choose (f9 hx2):=by simp only [μ,dif_pos hx2]
  rw [this,hμ]
  refine Nat.lt_of_le_of_lt ?_ hlt
  rcases b6 k' (Classical.choose (f9 hx2)) with hlt'|hge
  .exact absurd ⟨e2,H2,σ2,hk',rest⟩ ((xQ (f9 hx2)).2 k' hlt')
  .exact hge
 | .exit id,Q,e,H,h,_,σ,w,a,hS=>wp_exit ⟨e,H,σ,h,hS,.refl _ _,.refl _ _ _ _⟩
 | .ret,Q,e,H,h,_,σ,w,a,hS=>wp_ret ⟨e,H,σ,h,hS,.refl _ _,.refl _ _ _ _⟩
 | .rangeFunc ..,Q,e,H,h,_,_,_,_,_=>h.elim
 | .scope ..,Q,e,H,h,_,_,_,_,_=>h.elim
 | .label ..,Q,e,H,h,_,_,_,_,_=>h.elim
 | .goto ..,Q,e,H,h,_,_,_,_,_=>h.elim
 | .refuse ..,Q,e,H,h,_,_,_,_,_=>h.elim
end
end Go.Abs
end
section
namespace Go.Abs
def CI (P:Program):List ResultVar->dJ->AHeap->(List D->Prop)->Prop
 | [],_,_,K=>K []
 | .tmp t :: r,e,H,K=>CI P r e H λl=>K (e t :: l)
 | .cell a ty :: r,e,H,K=>(nU P ty (e a) H).cond/\CI P r e H λl=>K ((nU P ty (e a) H).val :: l)
def Fl:List D->D
 | [d]=>d
 | l=>.tup l
def QC (P:Program)(rs:List ResultVar)(Q:D->AHeap->Prop):Exit->dJ->AHeap->Prop
 | .normal,e,H=>CI P rs e H λl=>Q (Fl l) H
 | .ret,e,H=>CI P rs e H λl=>Q (Fl l) H
 | _,_,_=>False
def An (args:List D):dJ:=λt=>args.getD t .junk
def C4 (tmps:Array Value):ResultVar->Sem Value
 | .tmp t=>Pure.pure (tmps.getD t undef)
 | .cell x t=>do loadVar t (<- asAddr (tmps.getD x undef))
section
variable {P:Program} {M0:Nat→Prop} {H:AHeap} {σ:Nat→Option Ow} {w:World} {n:Nat} {e:dJ} {a:Act}
theorem wV (hS:St n M0 H σ w e a):∀ (rs:List ResultVar) (K:List D->Prop),CI P rs e H K ->
  ∃ vs l,Sem.run P (rs.mapM (C4 a.tmps)) w=Result.ok vs w/\RepL (dA M0 H σ) σ H.al w vs l/\K l
 | [],K,h=>⟨[],[],by simp,⟨rfl,λj u d hu=>by simp at hu⟩,h⟩
 | .tmp t :: rs,K,h=>by
  obtain ⟨vs,l,h1,h2,h3⟩:=wV hS rs _ h
  refine ⟨a.tmps.getD t undef :: vs,e t :: l,by simp [List.mapM_cons,C4,h1],⟨by simp [h2.len],λj u d hu hd=>?_⟩,h3⟩
  cases j with
  | zero=>simp only [lN,bF] at hu hd;subst hu;subst hd;exact hS.env t
  | succ j=>exact h2.rep j u d (bX hu) (bX hd)
 | .cell x t :: rs,K,h=>by
  obtain ⟨vs,l,h1,h2,h3⟩:=wV hS rs _ h.2
  obtain ⟨_,_,v,hr,hv⟩:=MI (P:=P) hS.rel (hS.env x) h.1
  have hld:Sem.run P (C4 a.tmps (.cell x t)) w=.ok v w:=by
   simp only [C4]
   unfold Instr.loadAt at hr
   generalize a.tmps.getD x undef=q at hr ⊢
   cases q with
   | pointer p=>cases p with
    | some ad=>simpa [Instr.sureAddr,asAddr] using hr
    | none=>simp [Instr.sureAddr,stuck] at hr
   | _=>simp [Instr.sureAddr,stuck] at hr
  refine ⟨v :: vs,_ :: l,by simp [List.mapM_cons,hld,h1],⟨by simp [h2.len],λj u d hu hd=>?_⟩,h3⟩
  cases j with
  | zero=>simp only [lN,bF] at hu hd;subst hu;subst hd;exact hv
  | succ j=>exact h2.rep j u d (bX hu) (bX hd)
theorem DO {fn:Func}{vs:List Value}{l:List D}(h:Sem.run P (fn.results.toList.mapM (C4 a.tmps)) w=.ok vs w)(b:RepL (dA M0 H σ) σ H.al w vs l) :
  ∃ v,(results fn a.tmps).run P w=.ok v w/\RepV (dA M0 H σ) σ H.al w v (Fl l):=by
 have c:results fn a.tmps=(do let vs <- fn.results.mapM (C4 a.tmps);Pure.pure (if h:vs.size=1 then vs[0] else .tuple vs)):=rfl
 rw [c,Array.mapM_eq_mapM_toList]
 refine ⟨if h:vs.toArray.size=1 then vs.toArray[0] else .tuple vs.toArray,by simp [h],?_⟩
 by_cases f:vs.length=1
 .match vs,f,b with
  | [v],_,b =>
   match l,b with
   | [d],b=>simpa [Fl] using b.rep 0 v d rfl rfl
   | [],b=>have:=b.len;simp at this
   | _ :: _ :: _,b=>have:=b.len;simp at this
 .have e:¬ vs.toArray.size=1:=by simpa using f
  rw [dif_neg e]
  have g:Fl l=.tup l:=by
   match l,b with
   | [],_=>rfl
   | [d],b=>have:=b.len;simp at this;exact absurd this f
   | _ :: _ :: _,_=>rfl
  rw [g]
  exact .tup vs l b.len b.rep
theorem aJ {f:FuncId}{fn:Func}{x:Code}{cfg:Cfg}{args:List D}{Q:D->AHeap->Prop}(u:P.follows .mixedOrders=true)(r:P.funcs[f]?=some fn)(s:fn.body=some x)
  (j:(fn.name=="runtime.NumGoroutine")=false) (q:args.length<=fn.ntmps) (i:pE cfg fn.ntmps x=true)
  (h:oN P cfg x (QC P fn.results.toList Q) (An args) H):ACalls P f args H Q:=by
 refine ⟨⟨fn,r,j,by simp [s]⟩,λM0 σ w vals A ha=>calls_of_wp r s ?_⟩
 have z:St fn.ntmps M0 H σ w (An args) { tmps:=vals.toArray++Array.replicate (fn.ntmps - vals.toArray.size) undef,defers:=[] }:=by
  refine ⟨A,λt=>?_,rfl,by simp [ha.len];omega⟩
  simp only [An]
  by_cases p:t<vals.length
  .have m:vals[t]?=some vals[t]:=aA p
   have k:args[t]?=some (args[t]'(by rw [<- ha.len];exact p)):=aA _
   have:=ha.rep t _ _ m k
   simp only [Option.getD_some,i5]
   grind
  .rw [List.getD_eq_getElem?_getD,b7 (by rw [<- ha.len];omega)]
   exact .junk _
 refine iK (oI u x _ _ H h i σ w _ z) λex a' w' hc=>?_
 obtain ⟨C,o,σ',b,a,g,y⟩:=hc
 have n:CI P fn.results.toList C o (λl=>Q (Fl l) o)->a'.defers=[]/\∃ v,(results fn a'.tmps).run P w'=.ok v w' /\
   ∃ v2 d H2 σ2,Ending.returned v=.returned v2/\Rel M0 H2 σ2 w'/\RepV (dA M0 H2 σ2) σ2 H2.al w' v2 d/\Stp σ w σ2 w'/\Keeps (dA M0 H σ) σ H.al w (dA M0 H2 σ2) σ2 H2.al w'/\Q d H2:=by
  intro b
  obtain ⟨E,l,m,k,B⟩:=wV a _ _ b
  obtain ⟨v,e,c⟩:=DO (fn:=fn) m k
  exact ⟨a.defers,v,e,v,_,o,σ',rfl,a.rel,c,g,y,B⟩
 cases ex<;>first|exact n b|exact b.elim
end
/-! ### pure contracts -/
theorem CM {l:List D}(h:∀ d∈l,d.cl=true):D.clL l=true:=by
 induction l with
 | nil=>rfl
 | cons a l ih=>simp [D.clL,h a bW,ih λd hd=>h d (by simp [hd])]
def iN:Nat->Option Ow:=λ_=>none
def rJ:Nat->Prop:=λ_=>False
def Pure (P:Program)(f:FuncId)(args:List D)(r:D):Prop :=
 UH P f/\∀ (M:Nat->Prop) (w:World) (vals:List Value),(∀ b,M b->b<w.heap.size)->RepL M iN rJ w vals args ->
  Calls P f vals.toArray w λe w'=>∃ v,e=.returned v/\RepV M iN rJ w' v r/\RowKit.Below w.heap.size w w'
def Own (P:Program)(f:FuncId)(args:List D)(ty:TypeId)(sz:Nat)(es:List (List D)):Prop :=
 UH P f/\∀ (M:Nat->Prop) (w:World) (vals:List Value),(∀ b,M b->b<w.heap.size)->RepL M iN rJ w vals args ->
  Calls P f vals.toArray w λe w'=>∃ v xs,e=.returned v/\w'.ownsRow w.heap.size ty sz v es.length xs/\(∀ u∈xs,u.oneCell'=true)/\RepL (λb=>M b\/v.ownBlock=some b) iN rJ w' xs es.flatten/\D.clLL es=true/\(∀ c∈es,c.length=sz) /\
   RowKit.Below w.heap.size w w'
def qP (H:AHeap):D->D
 | .tup vs=>.tup (vs.map (iM H))
 | d=>iM H d
def C9:D->List Nat
 | .tup vs=>vs.flatMap dV
 | d=>dV d
section
variable {P:Program} {M0:Nat→Prop} {H:AHeap} {σ:Nat→Option Ow} {w:World}
theorem tG {v:Value}{d:D}(g:Rel M0 H σ w)(b:RepV (dA M0 H σ) σ H.al w v d)(a:List Nat)(f:∀ i∈C9 d,i∈a) :
  RepV (dA M0 (fJ a H) σ) σ (fJ a H).al w v (qP H d):=by
 cases d with
 | tup vs =>
  cases b
  rename_i h l k
  refine .tup h _ (bX l) λj u x hu b=>?_
  rw [aN,bR] at b
  obtain ⟨y,e,rfl⟩:=b
  exact mK g (k j u y hu e) a λi c=>f i (by simp only [C9,bT];exact ⟨y,aK e,c⟩)
 | _=>exact mK g b a f
theorem EZ (M:Nat->Prop):dA M .emp iN=M:=by
 funext b
 exact propext ⟨λh=>h.elim (λh=>h) λ⟨_,_,_,h,_⟩=>by simp [AHeap.emp] at h,.inl⟩
theorem EW (M:Nat->Prop)(w:World)(hM:∀ b,M b->b<w.heap.size):Rel M .emp iN w :=
 ⟨λ_ _=>⟨rfl,rfl⟩,λ_ h=>h.elim,λ_ _ h=>by simp [AHeap.emp] at h,λ_ _ _ _ _ h=>by simp [iN] at h,λ_ _ _ h=>by simp [iN] at h,hM⟩
theorem zR {σ':Nat->Option Ow}{w':World}(h:Stp iN w σ' w'):RowKit.Below w.heap.size w w' :=
 ⟨h.os,h.tape,h.output,h.size,λb hb=>h.old b hb λ_ _ h=>by simp [iN] at h⟩
theorem aT {f:FuncId}{args:List D}{r:D}(h:ACalls P f args .emp λd H'=>qP H' d=r/\r.cl=true):Pure P f args r:=by
 refine ⟨h.1,λM w vals hM ha=>(h.2 M iN w vals (EW M w hM) (by rw [EZ];exact ha)).mono λe w' ⟨v,d,H',σ',k,m,g,a,n,j,b⟩=>⟨v,k,?_,zR a⟩⟩
 have c:=tG m g (C9 d) λi hi=>hi
 rw [j] at c
 exact c.closed (λad u hm l=>⟨λh=>hm (.inl h),l⟩) b
theorem B0 {f:FuncId}{args:List D}{ty:TypeId}{sz:Nat}{es:List (List D)}
  (h:ACalls P f args .emp λd H'=>∃ id k,d=.own id es.length/\H'.get id=some k/\k.es=es/\k.ty=ty/\k.sz=sz/\k.fz=false/\D.clLL es=true):Own P f args ty sz es:=by
 refine ⟨h.1,λM w vals hM ha=>(h.2 M iN w vals (EW M w hM) (by rw [EZ];exact ha)).mono λe w' ⟨v,d,H',σ',K,L,H,n,Q,id,k,q,i,r,N,B,y,p⟩=>?_⟩
 subst q;subst r;subst N;subst B
 obtain ⟨o,x,l⟩:=L.lies id k i
 obtain ⟨G,a,t,b⟩:=l.row
 cases H
 rename_i _ _ m
 rcases m o x with J|⟨_,rfl⟩
 .have:=l.ver;omega
 .refine ⟨o.val,G,K,?_,t,⟨b.len,λj u d hu q=>(b.rep j u d hu q).closed (λad u hm A=>⟨λh=>hm (h.elim .inl λh=>.inr ⟨id,k,o,i,y,x,h⟩),A⟩) ?_⟩,p,λc A=>(l.esz c A).trans l.sz,zR n⟩
  .rw [<- l.sz]
   refine ⟨a.1,?_⟩
   rcases a.2 with I|⟨g,E,C,r,_,B⟩
   .exact .inl I
   .refine .inr ⟨g,E,C,r,?_,B⟩
    rcases n.new id o g x (by simp [Ow.block,r,Value.ownBlock]) with h|⟨_,O,h,_⟩
    .exact h
    .simp [iN] at h
  .obtain ⟨c,z,s⟩:=jC.1 (aK q)
   exact jK (qE p c z) d s
theorem y0 {M:Nat->Prop}{N:Nat->Prop}:Keeps M iN rJ w M σ N w:=⟨λ_ _ h k=>⟨h,k⟩,λ_ _ h=>h.elim,λ_ h=>h.elim⟩
theorem gU {M M':Nat->Prop}{N N':Nat->Prop}{σ':Nat->Option Ow}(hM:∀ b,¬ M b->¬ M' b){vs:List Value}{ds:List D}(h:RepL M σ N w vs ds)(hc:D.clL ds=true):RepL M' σ' N' w vs ds :=
 ⟨h.len,λj u d hu hd=>(h.rep j u d hu hd).closed (λad u hm hc=>⟨hM _ hm,hc⟩) (jK hc d (aK hd))⟩
theorem uH (a:Rel M0 H σ w):∀ b,dA M0 H σ b->b<w.heap.size:=by
 rintro b (h|⟨i,k,o,_,_,c,d⟩)
 .exact a.m0 b h
 .exact (a.lt i o b c d).1
theorem rS {f:FuncId}{args:List D}{r:D}{Q:D->AHeap->Prop}(c:Pure P f args r)(b:D.clL args=true)(i:Q r H):ACalls P f args H Q:=by
 refine ⟨c.1,λM0 σ w vals hR ha=>(c.2 (dA M0 H σ) w vals (uH hR) (gU (λ_ h=>h) ha b)).mono λe w' ⟨v,g,d,a⟩=>?_⟩
 obtain ⟨l,k,j⟩:=hR.grow a.os a.tape a.output a.size a.block
 exact ⟨v,r,H,σ,g,l,d.keep y0,k,j,i⟩
theorem BN {M0:Nat->Prop}(hR:Rel M0 H σ w){vals:List Value}{args:List D}(ha:RepL (dA M0 H σ) σ H.al w vals args)(ids:List Nat)(hi:∀ i∈args.flatMap dV,i∈ids) :
  RepL (dA M0 (fJ ids H) σ) σ (fJ ids H).al w vals (args.map (iM H)) :=
 ⟨by simpa using ha.len,λj u d hu hd=>by
  rw [aN,bR] at hd
  obtain ⟨y,hy,rfl⟩:=hd
  exact mK hR (ha.rep j u y hu hy) ids λi hii=>hi i (bT.2 ⟨y,aK hy,hii⟩)⟩
def D.flat1:D->Bool
 | .int .. | .bool _ | .str _ | .nil | .nilp | .nilf=>true
 | _=>false
def D.flat:D->Bool
 | .tup vs=>vs.all D.flat1
 | d=>d.flat1
theorem Jm {M c:Nat->Prop}{N b:Nat->Prop}{σ σ':Nat->Option Ow}{w w':World}{v:Value}{d:D}(h:RepV M σ N w v d)(a:d.flat1=true):RepV c σ' b w' v d:=by
 cases h<;>first|(simp [D.flat1] at a;done)|constructor
theorem zD {M g:Nat->Prop}{N f:Nat->Prop}{σ σ':Nat->Option Ow}{w w':World}{v:Value}{d:D}(h:RepV M σ N w v d)(a:d.flat=true):RepV g σ' f w' v d:=by
 cases d with
 | tup vs =>
  cases h
  rename_i b e c
  simp only [D.flat,cJ] at a
  exact .tup b vs e λj u x hu hx=>Jm (c j u x hu hx) (a x (aK hx))
 | _=>exact Jm h a
theorem wX {f:FuncId}{args:List D}{r:D}{Q:D->AHeap->Prop}(c:Pure P f (args.map (iM H)) r)(b:D.clL (args.map (iM H))=true)(g:r.flat=true)(k:Q r H):ACalls P f args H Q:=by
 refine ⟨c.1,λM0 σ w vals hR ha=>?_⟩
 obtain ⟨o,s,q,p⟩:=fX (args.flatMap dV) hR
 refine (c.2 (dA M0 (fJ (args.flatMap dV) H) σ) w vals (uH o) (gU (λ_ h=>h) (BN hR ha _ λi h=>h) b)).mono λe w' ⟨v,j,d,a⟩=>?_
 obtain ⟨n,m,l⟩:=hR.grow a.os a.tape a.output a.size a.block
 exact ⟨v,r,H,σ,j,n,zD d g,m,l,k⟩
theorem Li {f:FuncId}{args:List D}{r:D}{Q:D->AHeap->Prop}(c:Pure P f (args.map (iM H)) r)(b:D.clL (args.map (iM H))=true)(k:Q r (fJ (args.flatMap dV) H)):ACalls P f args H Q:=by
 refine ⟨c.1,λM0 σ w vals hR ha=>?_⟩
 obtain ⟨d,o,q,p⟩:=fX (args.flatMap dV) hR
 refine (c.2 (dA M0 (fJ (args.flatMap dV) H) σ) w vals (uH d) (gU (λ_ h=>h) (BN hR ha _ λi h=>h) b)).mono λe w' ⟨v,j,g,a⟩=>?_
 obtain ⟨n,m,l⟩:=d.grow a.os a.tape a.output a.size a.block
 exact ⟨v,r,_,σ,j,n,g.keep y0,m,o.trans l,k⟩
theorem Er {f:FuncId}{args:List D}{ty:TypeId}{sz:Nat}{es:List (List D)}{Q:D->AHeap->Prop}(S:Own P f args ty sz es)(L:D.clL args=true)
  (hQ:Q (.own H.next es.length) (H.push H.next ⟨ty,sz,es,false⟩)):ACalls P f args H Q:=by
 refine ⟨S.1,λM0 σ w vals hR ha=>(S.2 (dA M0 H σ) w vals (uH hR) (gU (λ_ h=>h) ha L)).mono λe w' ⟨v,O,he,k,N,y,A,I,C⟩=>?_⟩
 have p:w'.ownsRow 0 ty sz v es.length O:=⟨k.1,k.2.imp (λx=>x) λ⟨g,s,r,a,b,c⟩=>⟨g,s,r,a,dY _,c⟩⟩
 have M:∀ b,v.ownBlock=some b->w.heap.size<=b:=λb j=>by
  rcases k.2 with E|⟨g,s,r,N,h2,h3⟩
  .rw [E.1] at j;simp [Value.ownBlock] at j
  .rw [N] at j;simp only [Value.ownBlock,bF] at j;omega
 have hG:∀ F,¬ (dA M0 H σ F\/v.ownBlock=some F)->¬ dA M0 (H.push H.next ⟨ty,sz,es,false⟩) (λi=>if i=H.next then some ⟨es.length,v,sz,ty⟩ else σ i) F:=by
  intro F J h
  rcases h with h|⟨i,Y,X,z,Z,m,j⟩
  .exact J (.inl (.inl h))
  .by_cases q:i=H.next
   .simp only [q,if_true,bF] at m
    subst m
    exact J (.inr j)
   .simp only [q,if_false] at m
    simp only [AHeap.push,q,if_false] at z
    exact J (.inl (.inr ⟨i,Y,X,z,Z,m,j⟩))
 have B:D.clL es.flatten=true:=CM λd hd=>by
  obtain ⟨c,K,G⟩:=jC.1 hd
  exact jK (qE A c K) d G
 obtain ⟨W,V,U⟩:=Rel.pushG hR H.next (λh=>oJ _ (hR.nxt _ h)) (w':=w') C.os C.tape C.output C.size C.block ⟨ty,sz,es,false⟩ ⟨es.length,v,sz,ty⟩
  M rfl rfl rfl I O p N (λhk=>gU hG y B)
 exact ⟨v,_,_,_,he,W,.own v _ _ (.inl rfl) (by rcases k.2 with ⟨E,_⟩|⟨g,s,r,E,_⟩<;>simp [E,Value.oneCell']) (λo ho=>by simp at ho;subst ho;exact .inr ⟨rfl,rfl⟩),V,U,hQ⟩
end
end Go.Abs
end
section
namespace Go.Abs
inductive SOut where
 | op (o:AOut)
 | call (f:FuncId) (args:List D)
 | gop (t:Bool) (g:Bool) (o:AOut)
 | gcall (t:Bool) (g:Bool) (f:FuncId) (args:List D)
 | bad
def JX (c:Option (FuncId × List D))(o:AOut):SOut :=
 match c with
 | some (f,args)=>.call f args
 | none=>.op o
def HB (gc:Option (Bool × Bool))(b:Bool)(g:Bool)(c:Option (FuncId × List D))(o:AOut):SOut :=
 match gc with
 | some (t,c')=>match c with
  | some (f,args)=>.gcall (t&&(c'==b)) g f args
  | none=>.gop (t&&(c'==b)) g o
 | none=>.bad
def mY (P:Program)(md:Nat->Bool)(nid:Nat)(ops:Array Oper)(e:dJ)(o:Oper)(H:AHeap):SOut :=
 match o.guard with
 | none=>JX (gQ e o) (EP P nid md e o H)
 | some (j,b)=>HB (gD ops e j) b (RF e (gO o.op)) (gQ (gE e o.op) o) (EP P nid md (gE e o.op) o H)
def fL (P:Program)(md:Nat->Bool)(ops:Array Oper)(rest:List Oper)(e:dJ)(dst:Option Tmp)(K:dJ->AHeap->Prop)(f:FuncId)(args:List D)(H:AHeap):Prop :=
 ACalls P f args H λv H1=>nC P md ops rest (oP e dst v) H1 K
def y9 (P:Program)(md:Nat->Bool)(ops:Array Oper)(rest:List Oper)(e:dJ)(dst:Option Tmp)(K:dJ->AHeap->Prop)(t:Bool)(f:FuncId)(args:List D)(H:AHeap):Prop :=
 (∃ r S,(t=true->∀ H',f6 S H' H->ACalls P f args H' λv H1=>v=r/\H1=H')/\nC P md ops rest (oP e dst (.opt t r)) H K) \/
  ((t=true->ACalls P f args H λv H1=>nC P md ops rest (oP e dst (.opt true v)) H1 K)/\(t=false->∃ r,nC P md ops rest (oP e dst (.opt false r)) H K))
def zH (P:Program)(md:Nat->Bool)(ops:Array Oper)(rest:List Oper)(e:dJ)(dst:Option Tmp)(H:AHeap)(K:dJ->AHeap->Prop):SOut->Prop
 | .op o=>o.cond/\(o.fact->nC P md ops rest (oP e dst o.val) o.heap K)
 | .call f args=>fL P md ops rest e dst K f args H
 | .gop t g o=>(t=true->g=true)/\(t=true->o.cond/\o.heap=H)/\((t=true->o.fact)->nC P md ops rest (oP e dst (.opt t o.val)) H K)
 | .gcall t g f args=>(t=true->g=true)/\y9 P md ops rest e dst K t f args H
 | .bad=>False
theorem RD (P:Program)(md:Nat->Bool)(ops:Array Oper)(o:Oper)(i:List Oper)(e:dJ)(H:AHeap)(K:dJ->AHeap->Prop) :
  nC P md ops (o :: i) e H K=zH P md ops i e o.dst H K (mY P md H.next ops e o H):=by
 obtain ⟨dst,op,type,pos,after,guard⟩:=o
 cases guard with
 | none =>
  simp only [nC,pI,mY]
  cases m:gQ e { dst:=dst,op:=op,type:=type,pos:=pos,after:=after,guard:=none } with
  | none=>simp [JX,zH]
  | some p=>simp [JX,zH,fL]
 | some p =>
  obtain ⟨j,b⟩:=p
  simp only [nC,pI,mY]
  cases n:gD ops e j with
  | none=>simp [HB,zH]
  | some gc =>
   obtain ⟨t,q⟩:=gc
   cases m:gQ (gE e op) { dst:=dst,op:=op,type:=type,pos:=pos,after:=after,guard:=some (j,b) } with
   | none=>simp [HB,zH]
   | some p=>simp [HB,zH,y9]
@[go_sem] theorem WI (P:Program)(md:Nat->Bool)(ops:Array Oper)(e:dJ)(H:AHeap)(K:dJ->AHeap->Prop):nC P md ops [] e H K=K e H:=rfl
@[go_sem] theorem Yh (P:Program)(md:Nat->Bool)(ops:Array Oper)(rest:List Oper)(e:dJ)(dst:Option Tmp)(H H':AHeap)(K:dJ->AHeap->Prop)(c f:Prop)(v:D) :
 zH P md ops rest e dst H K (.op ⟨c,f,v,H'⟩)=(c/\(f->nC P md ops rest (oP e dst v) H' K)):=rfl
@[go_sem] theorem VG (P:Program)(md:Nat->Bool)(ops:Array Oper)(rest:List Oper)(e:dJ)(dst:Option Tmp)(H:AHeap)(K:dJ->AHeap->Prop)(f:FuncId)(args:List D) :
 zH P md ops rest e dst H K (.call f args)=fL P md ops rest e dst K f args H:=rfl
@[go_sem] theorem WE (P:Program)(md:Nat->Bool)(ops:Array Oper)(rest:List Oper)(e:dJ)(dst:Option Tmp)(H H':AHeap)(K:dJ->AHeap->Prop)(c f:Prop)(v:D)(t g:Bool) :
 zH P md ops rest e dst H K (.gop t g ⟨c,f,v,H'⟩)=((t=true->g=true)/\(t=true->c/\H'=H)/\((t=true->f)->nC P md ops rest (oP e dst (.opt t v)) H K)):=rfl
@[go_sem] theorem Uy (P:Program)(md:Nat->Bool)(ops:Array Oper)(rest:List Oper)(e:dJ)(dst:Option Tmp)(H:AHeap)(K:dJ->AHeap->Prop)(f:FuncId)(args:List D)(t g:Bool) :
 zH P md ops rest e dst H K (.gcall t g f args)=((t=true->g=true)/\y9 P md ops rest e dst K t f args H):=rfl
@[go_sem] theorem V3 (f:FuncId)(args:List D)(o:AOut):JX (some (f,args)) o=.call f args:=rfl
@[go_sem] theorem V4 (o:AOut):JX none o=.op o:=rfl
@[go_sem] theorem WN (e:dJ)(d t:Nat)(v:D):oP e (some d) v t=if t=d then v else e t:=rfl
@[go_sem] theorem WO (e:dJ)(v:D):oP e none v=e:=rfl
def TV:List (Nat × D)->dJ
 | []=>λ_=>.junk
 | (t,d) :: l=>λt'=>if t'=t then d else TV l t'
@[go_sem] theorem Yf (t:Nat):TV [] t=.junk:=rfl
@[go_sem] theorem WB (t:Nat)(d:D)(l:List (Nat × D))(t':Nat):TV ((t,d) :: l) t'=if t'=t then d else TV l t':=rfl
@[go_sem] theorem Ye (t:Nat):An [] t=.junk:=by simp [An]
@[go_sem] theorem Wz (d:D)(l:List D):An (d :: l) 0=d:=rfl
@[go_sem] theorem WA (d:D)(l:List D)(t:Nat):An (d :: l) (t+1)=An l t:=by simp [An]
@[go_sem] theorem Zr (e:dJ)(t:Nat):eZ e (.tmp t)=e t:=rfl
@[go_sem] theorem Yc (e:dJ)(f:FuncId):eZ e (.func f)=.fn f []:=rfl
@[go_sem] theorem Zu (e:dJ)(k:IntKind)(n:Int):eZ e (.const (.int k n))=.int k n:=rfl
@[go_sem] theorem Yd (e:dJ)(b:Bool):eZ e (.const (.bool b))=.bool b:=rfl
@[go_sem] theorem Zs (e:dJ)(b:ByteArray):eZ e (.const (.string b))=.str b:=rfl
@[go_sem] theorem Zt (e:dJ):eZ e (.const (.slice none 0 0))=.nil:=rfl
@[go_sem] theorem Ya (e:dJ):eZ e (.const (.pointer none))=.nilp:=rfl
@[go_sem] theorem Yb (e:dJ):eZ e (.const .nilFunc)=.nilf:=rfl
@[go_sem] theorem Vf:jB (.const (.slice none 0 0))=true:=rfl
@[go_sem] theorem Vd (t:Nat):jB (.tmp t)=false:=rfl
@[go_sem] theorem Vg (k:IntKind)(n:Int):jB (.const (.int k n))=false:=rfl
@[go_sem] theorem Ur (b:Bool):jB (.const (.bool b))=false:=rfl
@[go_sem] theorem Ve (b:ByteArray):jB (.const (.string b))=false:=rfl
@[go_sem] theorem Uo:jB (.const (.pointer none))=false:=rfl
@[go_sem] theorem Up:jB (.const .nilFunc)=false:=rfl
@[go_sem] theorem Uq (f:FuncId):jB (.func f)=false:=rfl
@[go_sem] theorem XO (md:Nat->Bool)(t:Nat):De md (some t)=md t:=rfl
@[go_sem] theorem XP (md:Nat->Bool):De md none=false:=rfl
section
variable (P:Program) (md:Nat→Bool) (nid:Nat) (ops:Array Oper) (e:dJ) (d:Option Tmp) (ty:TypeId) (p:String) (af:Array Edge) (H:AHeap)
@[go_sem] theorem aaG (x:Operand):mY P md nid ops e ⟨d,.move x,ty,p,af,none⟩ H=.op (if jB x then DB P nid (De md d) ty H else ⟨True,True,eZ e x,H⟩):=rfl
@[go_sem] theorem WU (x:Operand):mY P md nid ops e ⟨d,.assign x,ty,p,af,none⟩ H=.op (if jB x then DB P nid (De md d) ty H else ⟨True,True,eZ e x,H⟩):=rfl
@[go_sem] theorem aaF (c a b:Operand):mY P md nid ops e ⟨d,.pick c a b,ty,p,af,none⟩ H=.op (zN (eZ e c) (eZ e a) (eZ e b) H):=rfl
@[go_sem] theorem YN (t:TypeId):mY P md nid ops e ⟨d,.alloc t,ty,p,af,none⟩ H=.op (wW P nid (De md d) t H):=rfl
@[go_sem] theorem ab3 (t:TypeId)(x:Operand):mY P md nid ops e ⟨d,.box t x,ty,p,af,none⟩ H=.op (Lc P nid (De md d) t (eZ e x) H):=rfl
@[go_sem] theorem YL (t:TypeId)(ps:Array (Nat × Operand)):mY P md nid ops e ⟨d,.build t ps,ty,p,af,none⟩ H=.op (sZ P t (ps.toList.map λp=>(p.1,eZ e p.2)) H):=rfl
@[go_sem] theorem Zx (md:Nat->Bool)(H:AHeap)(d:D):Qf md H d=if md 1000001 then d else iM H d:=rfl
@[go_sem] theorem Zw (md:Nat->Bool)(d:D):KU md d=if md 1000001 then [] else dV d:=rfl
@[go_sem] theorem Tr (t:TypeId)(n:Nat)(b:Array (Nat × Operand)):mY P md nid ops e ⟨d,.buildSlice t n b,ty,p,af,none⟩ H =
  .op (if md 1000001 then iR P nid (De md d) t n (b.toList.map λp=>(p.1,eZ e p.2)) H else iR P nid (De md d) t n (b.toList.map λp=>(p.1,iM H (eZ e p.2))) (fJ (b.toList.flatMap λp=>dV (eZ e p.2)) H)):=by
 show SOut.op (iR P nid (De md d) t n (b.toList.map λp=>(p.1,Qf md H (eZ e p.2))) (fJ (b.toList.flatMap λp=>KU md (eZ e p.2)) H))=_
 cases h:md 1000001
 .simp [Qf,KU,h]
 .simp only [Qf,KU,h,if_true]
  rw [show (b.toList.flatMap λ_=>([]:List Nat))=[] by induction b.toList with|nil=>rfl|cons a l ih=>simp];rfl
@[go_sem] theorem aaH (t:TypeId)(x:Operand):mY P md nid ops e ⟨d,.load t x,ty,p,af,none⟩ H=.op (nU P t (eZ e x) H):=rfl
@[go_sem] theorem YH (t:TypeId)(x y:Operand):mY P md nid ops e ⟨d,.store t x y,ty,p,af,none⟩ H =
 .op (if md 1000000 then mC P t (eZ e x) (iM H (eZ e y)) (fJ (dV (eZ e y)) H) else mC P t (eZ e x) (eZ e y) H):=rfl
@[go_sem] theorem UQ (x:Operand):mY P md nid ops e ⟨d,.nilCheck x,ty,p,af,none⟩ H=.op (jI (eZ e x) H):=rfl
@[go_sem] theorem YM (b:BinOp)(t t':TypeId)(x y:Operand):mY P md nid ops e ⟨d,.binOp b t x y t',ty,p,af,none⟩ H=.op (rR (md 2000000) P t b (eZ e x) (eZ e y) H):=rfl
@[go_sem] theorem YC (w:Bool)(P:Program)(t:TypeId)(x y:D)(H:AHeap):rR w P t .add x y H=Hk P t .add x y H:=by cases w<;>rfl
@[go_sem] theorem Yv (w:Bool)(P:Program)(t:TypeId)(x y:D)(H:AHeap):rR w P t .mul x y H=Hk P t .mul x y H:=by cases w<;>rfl
@[go_sem] theorem Ys (w:Bool)(P:Program)(t:TypeId)(x y:D)(H:AHeap):rR w P t .quo x y H=Hk P t .quo x y H:=by cases w<;>rfl
@[go_sem] theorem Yr (w:Bool)(P:Program)(t:TypeId)(x y:D)(H:AHeap):rR w P t .rem x y H=Hk P t .rem x y H:=by cases w<;>rfl
@[go_sem] theorem YA (w:Bool)(P:Program)(t:TypeId)(x y:D)(H:AHeap):rR w P t .eql x y H=Hk P t .eql x y H:=by cases w<;>rfl
@[go_sem] theorem Yu (w:Bool)(P:Program)(t:TypeId)(x y:D)(H:AHeap):rR w P t .neq x y H=Hk P t .neq x y H:=by cases w<;>rfl
@[go_sem] theorem Yw (w:Bool)(P:Program)(t:TypeId)(x y:D)(H:AHeap):rR w P t .lss x y H=Hk P t .lss x y H:=by cases w<;>rfl
@[go_sem] theorem Yx (w:Bool)(P:Program)(t:TypeId)(x y:D)(H:AHeap):rR w P t .leq x y H=Hk P t .leq x y H:=by cases w<;>rfl
@[go_sem] theorem Yy (w:Bool)(P:Program)(t:TypeId)(x y:D)(H:AHeap):rR w P t .gtr x y H=Hk P t .gtr x y H:=by cases w<;>rfl
@[go_sem] theorem Yz (w:Bool)(P:Program)(t:TypeId)(x y:D)(H:AHeap):rR w P t .geq x y H=Hk P t .geq x y H:=by cases w<;>rfl
@[go_sem] theorem YB (w:Bool)(P:Program)(t:TypeId)(x y:D)(H:AHeap):rR w P t .and x y H=Hk P t .and x y H:=by cases w<;>rfl
@[go_sem] theorem Yq (w:Bool)(P:Program)(t:TypeId)(x y:D)(H:AHeap):rR w P t .shr x y H=Hk P t .shr x y H:=by cases w<;>rfl
@[go_sem] theorem Yt (P:Program)(t:TypeId)(a:BinOp)(x y:D)(H:AHeap):rR false P t a x y H=Hk P t a x y H:=by cases a<;>cases x<;>cases y<;>rfl
@[go_sem] theorem Yp (P:Program)(t:TypeId)(k k':IntKind)(a b:Int)(H:AHeap):rR true P t .sub (.int k a) (.int k' b) H=⟨k=k',True,.int k (k.wrap (a - b)),H⟩:=rfl
@[go_sem] theorem aaE (u:UnOp)(t:TypeId)(x:Operand):mY P md nid ops e ⟨d,.unOp u t x,ty,p,af,none⟩ H=.op (S1 u (eZ e x) H):=rfl
@[go_sem] theorem V6 (s t:TypeId)(x:Operand):mY P md nid ops e ⟨d,.convert s t x,ty,p,af,none⟩ H=.op (mV P s t (eZ e x) H):=rfl
@[go_sem] theorem UR (f:FuncId)(caps:Array Operand):mY P md nid ops e ⟨d,.makeFunc (.func f) #[] caps,ty,p,af,none⟩ H=.op ⟨True,True,.fn f (caps.toList.map (eZ e)),H⟩:=rfl
@[go_sem] theorem Ud (t:TypeId)(l c:Operand):mY P md nid ops e ⟨d,.makeSlice t l c,ty,p,af,none⟩ H=.op (CK P nid t (eZ e l) (eZ e c) H):=rfl
@[go_sem] theorem YI (t:TypeId)(x:Operand)(lo hi:Option Operand):mY P md nid ops e ⟨d,.slice t x lo hi none,ty,p,af,none⟩ H=.op (qD P t (eZ e x) (lo.map (eZ e)) (hi.map (eZ e)) H):=rfl
@[go_sem] theorem Uf (t:TypeId)(x:Operand)(f:Nat):mY P md nid ops e ⟨d,.fieldAddr t x f,ty,p,af,none⟩ H=.op (iF P t (eZ e x) f H):=rfl
@[go_sem] theorem Ue (t:TypeId)(x i:Operand):mY P md nid ops e ⟨d,.indexAddr t x i,ty,p,af,none⟩ H=.op (iE P t (eZ e x) (eZ e i) H):=rfl
@[go_sem] theorem YJ (t:TypeId)(x i:Operand):mY P md nid ops e ⟨d,.index t x i,ty,p,af,none⟩ H=.op (sY P t (eZ e x) (eZ e i) H):=rfl
@[go_sem] theorem V5 (x:Operand)(i:Nat):mY P md nid ops e ⟨d,.extract x i,ty,p,af,none⟩ H=.op (mU (eZ e x) i H):=rfl
@[go_sem] theorem V7 (b:Builtin)(args:Array Operand)(ts:Array TypeId):mY P md nid ops e ⟨d,.call ⟨.builtin b,args,ts⟩,ty,p,af,none⟩ H=.op (vU P nid b (args.toList.map (eZ e)) ts.toList H):=rfl
@[go_sem] theorem aaI (f:FuncId)(args:Array Operand)(ts:Array TypeId):mY P md nid ops e ⟨d,.call ⟨.value (.func f),args,ts⟩,ty,p,af,none⟩ H=.call f (args.toList.map (eZ e)):=by
 simp [mY,gQ,eZ,JX]
end
@[go_sem] theorem VR (P:Program)(md:Nat->Bool)(ops:Array Oper)(rest:List Oper)(e:dJ)(H:AHeap)(K:dJ->AHeap->Prop)(d:Option Tmp)(op:Op)(ty:TypeId)(p:String)(af:Array Edge)(g:Option (Nat × Bool)) :
 nC P md ops (⟨d,op,ty,p,af,g⟩ :: rest) e H K=zH P md ops rest e d H K (mY P md H.next ops e ⟨d,op,ty,p,af,g⟩ H):=RD P md ops _ rest e H K
/-! ### code -/
section
variable (P:Program) (c:Cfg) (Q:Exit→dJ→AHeap→Prop) (e:dJ) (H:AHeap)
def xA (P:Program)(c:Cfg)(a b:Code)(Q:Exit->dJ->AHeap->Prop)(e:dJ)(H:AHeap):D->Prop
 | .bool t=>(t=true->oN P c a Q e H)/\(t=false->oN P c b Q e H)
 | _=>False
def AJ (P:Program)(c:Cfg)(b:Code)(Q:Exit->dJ->AHeap->Prop)(e:dJ)(H:AHeap):Prop:=oN P c (.loop b) Q e H
@[go_sem] theorem ZA:oN P c .skip Q e H=Q .normal e H:=rfl
@[go_sem] theorem WL (a:Nat)(l:List Oper):oN P c (.region a l.toArray false) Q e H=nC P c.own l.toArray l e H (Q .normal):=by
 simp [oN]
@[go_sem] theorem ZD (a:Nat)(l:List Oper):oN P c (.region a l.toArray true) Q e H=jZ P c.own l.toArray (c.sp a) H.next 0 l [] e ⟨H.next+l.length,H.al,H.get⟩ (Q .normal):=by
 simp [oN]
@[go_sem] theorem abN (a b:Code):oN P c (.seq a b) Q e H=oN P c a (tC (oN P c b Q) Q) e H:=rfl
@[go_sem] theorem ZE (x:Operand)(a b:Code):oN P c (.cond x a b) Q e H=xA P c a b Q e H (eZ e x):=rfl
@[go_sem] theorem YE (id:Nat)(b:Code):oN P c (.block id b) Q e H=oN P c b (Bn id Q) e H:=rfl
@[go_sem] theorem ZB (b:Code):oN P c (.loop b) Q e H=AJ P c b Q e H:=rfl
@[go_sem] theorem ZC (id:Nat):oN P c (.exit id) Q e H=Q (.exit id) e H:=rfl
@[go_sem] theorem abO:oN P c .ret Q e H=Q .ret e H:=rfl
@[go_sem] theorem VI (a b:Code):xA P c a b Q e H (.bool true)=oN P c a Q e H:=by simp [xA]
@[go_sem] theorem Uz (a b:Code):xA P c a b Q e H (.bool false)=oN P c b Q e H:=by simp [xA]
@[go_sem] theorem To (n:dJ->AHeap->Prop):tC n Q .normal e H=n e H:=rfl
@[go_sem] theorem VW (n:dJ->AHeap->Prop):tC n Q .ret e H=Q .ret e H:=rfl
@[go_sem] theorem UM (n:dJ->AHeap->Prop)(i:Nat):tC n Q (.exit i) e H=Q (.exit i) e H:=rfl
@[go_sem] theorem Te (i:Nat):Bn i Q .normal e H=Q .normal e H:=rfl
@[go_sem] theorem VN (i:Nat):Bn i Q .ret e H=Q .ret e H:=rfl
@[go_sem] theorem ND (i j:Nat):Bn i Q (.exit j) e H=if j=i then Q .normal e H else Q (.exit j) e H:=rfl
@[go_sem] theorem Xm (rs:List ResultVar)(R:D->AHeap->Prop):QC P rs R .ret e H=CI P rs e H λl=>R (Fl l) H:=rfl
@[go_sem] theorem Ug (rs:List ResultVar)(R:D->AHeap->Prop):QC P rs R .normal e H=CI P rs e H λl=>R (Fl l) H:=rfl
@[go_sem] theorem Yo (K:List D->Prop):CI P [] e H K=K []:=rfl
@[go_sem] theorem Yn (t:Tmp)(r:List ResultVar)(K:List D->Prop):CI P (.tmp t :: r) e H K=CI P r e H λl=>K (e t :: l):=rfl
@[go_sem] theorem WH (a:Tmp)(t:TypeId)(r:List ResultVar)(K:List D->Prop):CI P (.cell a t :: r) e H K=((nU P t (e a) H).cond/\CI P r e H λl=>K ((nU P t (e a) H).val :: l)):=rfl
@[go_sem] theorem WQ (d:D):Fl [d]=d:=rfl
end
attribute [go_sem] if_true if_false eX Bool.true_eq_false eq_self true_and and_true forall_const true_implies false_implies jD g9 List.toList_toArray dQ Option.map_none
 Im xH dE cZ qN fH implies_true
attribute [go_sem] Ik Hk nU mC eJ iF iE ER kH pJ CK Lc wW sZ iR qD sY mV zN uQ CJ jI S1 mU DB vU uR sW fJ AOut.bad
 pC fK D.cells AM BK.place S9 ite_self
@[go_sem] theorem Zo (id:Nat):AHeap.emp.get id=none:=rfl
@[go_sem] theorem XN:AHeap.emp.next=0:=rfl
@[go_sem] theorem X6 (H:AHeap)(i j:Nat)(k:Blk):(H.push i k).get j=if j=i then some k else H.get j:=rfl
@[go_sem] theorem Zm (H:AHeap)(i j:Nat)(k:Blk):(H.put i k).get j=if j=i then some k else H.get j:=rfl
@[go_sem] theorem Wq (H:AHeap)(i:Nat)(k:Blk):(H.push i k).next=if i<H.next then H.next else i+1:=rfl
@[go_sem] theorem XL (H:AHeap)(i:Nat)(k:Blk):(H.put i k).next=H.next:=rfl
@[go_sem] theorem X7 (n:Nat)(al:Nat->Prop)(g:Nat->Option Blk)(j:Nat):(AHeap.mk n al g).get j=g j:=rfl
@[go_sem] theorem Wr (n:Nat)(al:Nat->Prop)(g:Nat->Option Blk):(AHeap.mk n al g).next=n:=rfl
section
variable (H:AHeap)
@[go_sem] theorem Xi (k:IntKind)(n:Int):fG H (.int k n)=.int k n:=rfl
@[go_sem] theorem Wk (b:Bool):fG H (.bool b)=.bool b:=rfl
@[go_sem] theorem Xf (b:ByteArray):fG H (.str b)=.str b:=rfl
@[go_sem] theorem Xh:fG H .nil=.nil:=rfl
@[go_sem] theorem Wj (es:List (List D)):fG H (.list es)=.list es:=rfl
@[go_sem] theorem Xj (es:List D):fG H (.adr es)=.adr es:=rfl
@[go_sem] theorem Wg:fG H .nilp=.nilp:=rfl
@[go_sem] theorem Wi:fG H .nilf=.nilf:=rfl
@[go_sem] theorem YQ (f:FuncId)(l:List D):fG H (.fn f l)=.fn f l:=rfl
@[go_sem] theorem Xg (id n:Nat):fG H (.own id n)=match H.get id with|some k=>if k.es.length=n then .list k.es else .own id n|none=>.own id n:=rfl
@[go_sem] theorem Xe (id n lo hi:Nat):fG H (.win id n lo hi)=match H.get id with|some k=>if k.es.length=n then .list ((k.es.take hi).drop lo) else .win id n lo hi|none=>.win id n lo hi:=rfl
@[go_sem] theorem W6 (id n lo hi:Nat):iM H (.win id n lo hi)=fG H (.win id n lo hi):=rfl
@[go_sem] theorem WX (id n lo hi:Nat):qP H (.win id n lo hi)=fG H (.win id n lo hi):=rfl
@[go_sem] theorem Xb (k:IntKind)(n:Int):iM H (.int k n)=.int k n:=rfl
@[go_sem] theorem Wf (b:Bool):iM H (.bool b)=.bool b:=rfl
@[go_sem] theorem W7 (b:ByteArray):iM H (.str b)=.str b:=rfl
@[go_sem] theorem Xa:iM H .nil=.nil:=rfl
@[go_sem] theorem We (es:List (List D)):iM H (.list es)=.list es:=rfl
@[go_sem] theorem Xd (es:List D):iM H (.adr es)=.adr es:=rfl
@[go_sem] theorem Wc:iM H .nilp=.nilp:=rfl
@[go_sem] theorem Wd:iM H .nilf=.nilf:=rfl
@[go_sem] theorem YP (f:FuncId)(l:List D):iM H (.fn f l)=.fn f l:=rfl
@[go_sem] theorem Xc (l:List D):iM H (.agg l)=.agg (l.map (fG H)):=rfl
@[go_sem] theorem W9 (id n:Nat):iM H (.own id n)=fG H (.own id n):=rfl
@[go_sem] theorem WY (l:List D):qP H (.tup l)=.tup (l.map (iM H)):=rfl
@[go_sem] theorem W2 (k:IntKind)(n:Int):qP H (.int k n)=.int k n:=rfl
@[go_sem] theorem Wb (b:Bool):qP H (.bool b)=.bool b:=rfl
@[go_sem] theorem WZ (b:ByteArray):qP H (.str b)=.str b:=rfl
@[go_sem] theorem W1:qP H .nil=.nil:=rfl
@[go_sem] theorem Wa (es:List (List D)):qP H (.list es)=.list es:=rfl
@[go_sem] theorem W5 (es:List D):qP H (.adr es)=.adr es:=rfl
@[go_sem] theorem V8:qP H .nilp=.nilp:=rfl
@[go_sem] theorem V9:qP H .nilf=.nilf:=rfl
@[go_sem] theorem YO (f:FuncId)(l:List D):qP H (.fn f l)=.fn f l:=rfl
@[go_sem] theorem W4 (l:List D):qP H (.agg l)=.agg (l.map (fG H)):=rfl
@[go_sem] theorem W0 (id n:Nat):qP H (.own id n)=fG H (.own id n):=rfl
end
@[go_sem] theorem X2 (k:IntKind)(n:Int):lC (.int k n)=[]:=rfl
@[go_sem] theorem Ww (b:Bool):lC (.bool b)=[]:=rfl
@[go_sem] theorem XZ (b:ByteArray):lC (.str b)=[]:=rfl
@[go_sem] theorem X1:lC .nil=[]:=rfl
@[go_sem] theorem Wv (es:List (List D)):lC (.list es)=[]:=rfl
@[go_sem] theorem X3 (es:List D):lC (.adr es)=[]:=rfl
@[go_sem] theorem Wt:lC .nilp=[]:=rfl
@[go_sem] theorem Wu:lC .nilf=[]:=rfl
@[go_sem] theorem Zf (f:FuncId)(l:List D):lC (.fn f l)=[]:=rfl
@[go_sem] theorem XY (id n lo hi:Nat):lC (.win id n lo hi)=[id]:=rfl
@[go_sem] theorem UX (id n lo hi:Nat):dV (.win id n lo hi)=[id]:=rfl
@[go_sem] theorem X0 (id n:Nat):lC (.own id n)=[id]:=rfl
@[go_sem] theorem U2 (k:IntKind)(n:Int):dV (.int k n)=[]:=rfl
@[go_sem] theorem Uk (b:Bool):dV (.bool b)=[]:=rfl
@[go_sem] theorem UY (b:ByteArray):dV (.str b)=[]:=rfl
@[go_sem] theorem U1:dV .nil=[]:=rfl
@[go_sem] theorem Uj (es:List (List D)):dV (.list es)=[]:=rfl
@[go_sem] theorem U4 (es:List D):dV (.adr es)=[]:=rfl
@[go_sem] theorem Uh:dV .nilp=[]:=rfl
@[go_sem] theorem Ui:dV .nilf=[]:=rfl
@[go_sem] theorem Wn (f:FuncId)(l:List D):dV (.fn f l)=[]:=rfl
@[go_sem] theorem U0 (id n:Nat):dV (.own id n)=[id]:=rfl
@[go_sem] theorem U3 (l:List D):dV (.agg l)=l.flatMap lC:=rfl
@[go_sem] theorem X8 (H:AHeap)(id:Nat):H.frz id=match H.get id with|some k=>H.put id { k with fz:=true } | none=>H:=rfl
@[go_sem] theorem Xo (H:AHeap)(a:Nat)(k b:Blk):(H.push a k).put a b=H.push a b:=by
 unfold AHeap.push AHeap.put
 grind
@[go_sem] theorem YS (H:AHeap)(a:Nat)(k b:Blk):(H.put a k).put a b=H.put a b:=by
 unfold AHeap.put
 grind
section
variable {P:Program} {c:Cfg} {Q:Exit→dJ→AHeap→Prop} {e:dJ} {H:AHeap} {a b:Code}
theorem aP {t:Bool}(h1:t=true->oN P c a Q e H)(h2:t=false->oN P c b Q e H):xA P c a b Q e H (.bool t):=⟨h1,h2⟩
theorem f7 {p:Prop}[Decidable p](h1:p->oN P c a Q e H)(h2:¬ p->oN P c b Q e H):xA P c a b Q e H (.bool (decide p)):=⟨λh=>h1 (of_decide_eq_true h),λh=>h2 (of_decide_eq_false h)⟩
end
attribute [irreducible] xA fL y9 AJ
end Go.Abs
end
section
namespace Go.Abs
section
variable {P:Program} {c:Cfg} {md:Nat→Bool}
theorem Hi {t:Option Nat}{nid:Nat}{ops:Array Oper}{e:dJ}{o:Oper}{H:AHeap}{K K':D->AHeap->List Nat->Prop}(d:∀ v H F,K v H F->K' v H F)(h:pI P md t nid ops e o H K):pI P md t nid ops e o H K':=by
 unfold pI at h ⊢
 cases x:o.guard with
 | none =>
  simp only [x] at h ⊢
  cases k:gQ e o with
  | none=>simp only [k] at h ⊢;exact ⟨h.1,λhf=>d _ _ _ (h.2 hf)⟩
  | some p =>
   obtain ⟨f,s⟩:=p
   simp only [k] at h ⊢
   cases t with
   | none=>exact h.mono λ_ _ h=>d _ _ _ h
   | some m =>
    rcases h with ⟨r,S,y,c⟩|⟨z,r,S,u,q,A,hq,y,c⟩
    .exact .inl ⟨r,S,y,d _ _ _ c⟩
    grind
 | some p =>
  obtain ⟨j,b⟩:=p
  simp only [x] at h ⊢
  cases i:gD ops e j with
  | none=>simp only [i] at h
  | some gc =>
   obtain ⟨g,B⟩:=gc
   simp only [i] at h ⊢
   refine ⟨h.1,?_⟩
   have c:=h.2
   cases k:gQ (gE e o.op) o with
   | none=>simp only [k] at c ⊢;exact ⟨c.1,λhf=>d _ _ _ (c.2 hf)⟩
   | some p =>
    obtain ⟨f,s⟩:=p
    simp only [k] at c ⊢
    cases t with
    | some _=>obtain ⟨r,S,n,l⟩:=c;exact ⟨r,S,n,d _ _ _ l⟩
    | none =>
     rcases c with ⟨r,S,n,l⟩|⟨n,l⟩
     .exact .inl ⟨r,S,n,d _ _ _ l⟩
     .exact .inr ⟨λhq=>(n hq).mono λ_ _ h=>d _ _ _ h,λhq=>(l hq).imp λ_ h=>d _ _ _ h⟩
theorem JG {ops:Array Oper}{K K':dJ->AHeap->Prop}(hk:∀ e H,K e H->K' e H):∀ (l:List Oper) (e:dJ) (H:AHeap),nC P md ops l e H K->nC P md ops l e H K'
 | [],e,H,h=>hk _ _ h
 | o :: l,e,H,h=>by
  unfold nC at h ⊢
  exact Hi (λv H' _ h=>JG hk l _ _ h) h
theorem Hl {ops:Array Oper}{sp:List (Nat × Nat)}{n0:Nat}{K K':dJ->AHeap->Prop}(hk:∀ e H,K e H->K' e H):∀ (l:List Oper) (i:Nat) (acc:List (Nat × List Nat)) (e:dJ) (H:AHeap),
  jZ P md ops sp n0 i l acc e H K->jZ P md ops sp n0 i l acc e H K'
 | [],i,acc,e,H,h=>by unfold jZ at h ⊢;exact hk _ _ h
 | o :: l,i,acc,e,H,h=>by
  unfold jZ at h ⊢
  exact Hi (λv H' _ h=>⟨h.1,Hl hk l _ _ _ _ h.2⟩) h
theorem vY {n a:dJ->AHeap->Prop}{Q b:Exit->dJ->AHeap->Prop}(d:∀ e H,n e H->a e H)(c:∀ x e H,Q x e H->b x e H):∀ x e H,tC n Q x e H->tC a b x e H:=by
 intro x e H h
 cases x<;>first|exact d _ _ h|exact c _ _ _ h
theorem NC {i:Nat}{Q a:Exit->dJ->AHeap->Prop}(b:∀ x e H,Q x e H->a x e H):∀ x e H,Bn i Q x e H->Bn i a x e H:=by
 intro x e H h
 cases x<;>first|exact b _ _ _ h|skip
 rename_i j
 rw [ND] at h ⊢
 grind
theorem qX:∀ (x:Code) {Q Q':Exit->dJ->AHeap->Prop} (hq:∀ x e H,Q x e H->Q' x e H) (e:dJ) (H:AHeap),oN P c x Q e H->oN P c x Q' e H
 | .skip,Q,Q',hq,e,H,h=>hq _ _ _ h
 | .region id ops dr,Q,Q',hq,e,H,h=>by
  unfold oN at h ⊢
  cases dr with
  | false=>simp only [eX,if_false] at h ⊢;exact JG (λe H h=>hq _ _ _ h) _ _ _ h
  | true=>simp only [if_true] at h ⊢;exact Hl (λe H h=>hq _ _ _ h) _ _ _ _ _ h
 | .seq a b,Q,Q',hq,e,H,h=>by
  unfold oN at h ⊢
  exact qX a (vY (λe H h=>qX b hq e H h) hq) e H h
 | .cond x a b,Q,Q',hq,e,H,h=>by
  unfold oN at h ⊢
  cases hv:eZ e x<;>simp only [hv] at h ⊢<;>try (exact h.elim)
  exact ⟨λht=>qX a hq e H (h.1 ht),λht=>qX b hq e H (h.2 ht)⟩
 | .block id b,Q,Q',hq,e,H,h=>by
  unfold oN at h ⊢
  exact qX b (NC hq) e H h
 | .loop b,Q,Q',hq,e,H,h=>by
  unfold oN at h ⊢
  obtain ⟨I,h0,hI⟩:=h
  exact ⟨I,h0,λk e' H' hi=>qX b (vY (λ_ _ h=>h) hq) _ _ (hI k e' H' hi)⟩
 | .exit id,Q,Q',hq,e,H,h=>hq _ _ _ h
 | .ret,Q,Q',hq,e,H,h=>hq _ _ _ h
 | .rangeFunc ..,Q,Q',hq,e,H,h=>h.elim
 | .scope ..,Q,Q',hq,e,H,h=>h.elim
 | .label ..,Q,Q',hq,e,H,h=>h.elim
 | .goto ..,Q,Q',hq,e,H,h=>h.elim
 | .refuse ..,Q,Q',hq,e,H,h=>h.elim
theorem fQ {b:Code}{Q:Exit->dJ->AHeap->Prop}{e:dJ}{H:AHeap}{ι:Type}(I:ι->dJ->AHeap->Prop)(μ:ι->Nat)(g:ι)(m:I g e H)
  (j:∀ x e H,I x e H->oN P c b (tC (λe' H'=>∃ x',μ x'<μ x/\I x' e' H') Q) e H):AJ P c b Q e H:=by
 unfold AJ oN
 refine ⟨λk e H=>∃ x,μ x=k/\I x e H,⟨H,.refl H,_,g,rfl,m⟩,λk e' H' ⟨x,l,i⟩=>qX b (vY (λe'' f ⟨x',d,a⟩=>⟨f,.refl _,_,l ▸ d,x',rfl,a⟩) λ_ _ _ h=>h) _ _ (j x e' H' i)⟩
theorem Cc {b:Code}{Q:Exit->dJ->AHeap->Prop}{e:dJ}{H H':AHeap}(m:Ghosts H H'){ι:Type}(I:ι->dJ->AHeap->Prop)(μ:ι->Nat)(g:ι)(n:I g e H')
  (j:∀ x e H,I x e H->oN P c b (tC (λe' H'=>∃ H3,Ghosts H' H3/\∃ x',μ x'<μ x/\I x' e' H3) Q) e H):AJ P c b Q e H:=by
 unfold AJ oN
 refine ⟨λk e H=>∃ x,μ x=k/\I x e H,⟨H',m,_,g,rfl,n⟩,λk e' H' ⟨x,l,i⟩=>qX b (vY (λe'' H'' ⟨H3,f,x',d,a⟩=>⟨H3,f,_,l ▸ d,x',rfl,a⟩) λ_ _ _ h=>h) _ _ (j x e' H' i)⟩
theorem aB {ops:Array Oper}{a:List Oper}{e:dJ}{b:Option Tmp}{K:dJ->AHeap->Prop}{f:FuncId}{args:List D}{H:AHeap}{r:D}(d:Pure P f args r)(c:D.clL args=true)
 (h:nC P md ops a (oP e b r) H K):fL P md ops a e b K f args H:=by grind [fL, rS]
theorem dX {ops:Array Oper}{a:List Oper}{e:dJ}{b:Option Tmp}{K:dJ->AHeap->Prop}{f:FuncId}{args args':List D}{H:AHeap}{r:D}(d:Pure P f args' r)(i:args.map (iM H)=args')(c:D.clL args'=true)(g:r.flat=true)
 (h:nC P md ops a (oP e b r) H K):fL P md ops a e b K f args H:=by grind [fL, wX]
theorem Ny {ops:Array Oper}{a:List Oper}{e:dJ}{b:Option Tmp}{K:dJ->AHeap->Prop}{f:FuncId}{args args':List D}{H H':AHeap}{r:D}(g:Pure P f args' r)(i:args.map (iM H)=args')(c:D.clL args'=true)
 (d:fJ (args.flatMap dV) H=H') (h:nC P md ops a (oP e b r) H' K):fL P md ops a e b K f args H:=by grind [fL, Li]
theorem lY {ops:Array Oper}{a:List Oper}{e:dJ}{b:Option Tmp}{K:dJ->AHeap->Prop}{f:FuncId}{args:List D}{H:AHeap}{ty:TypeId}{sz:Nat}{es:List (List D)}(d:Own P f args ty sz es)(c:D.clL args=true)
 (h:nC P md ops a (oP e b (.own H.next es.length)) (H.push H.next ⟨ty,sz,es,false⟩) K):fL P md ops a e b K f args H:=by grind [fL, Er]
end
end Go.Abs
end

/- The abstraction layer, part S: whole bodies, functions, cont -/
import Derived.Test.YthalajhajpjjeaaGreatZhD
set_option linter.unusedVariables false
set_option linter.unusedSimpArgs false
section
namespace Go.Abs
abbrev dA:=Nat->D
structure Cfg where
 own:Nat->Bool
 sp:Nat->List (Nat × Nat)
def GP (H:AHeap)(id i off:Nat)(ty sz:Nat):AHeap :=
 match H.get id with
 | some k=>(H.put id { k with es:=k.es.set i ((k.es[i]?.getD []).set off (.own H.next 0)) }).push H.next ⟨ty,sz,[],false⟩
 | none=>H
def AHeap.drop (H:AHeap)(id:Nat):AHeap:=⟨H.next,H.al,λi=>if i=id then none else H.get i⟩
def A9 (H:AHeap)(id i off q hi:Nat):AHeap :=
 match H.get id,H.get q with
 | some k,some kq=>(((H.drop q).push H.next ⟨kq.ty,kq.sz,kq.es.take hi,false⟩).put id { k with es:=k.es.set i ((k.es[i]?.getD []).set off (.own H.next hi)) })
 | _,_=>H
inductive Ghosts:AHeap->AHeap->Prop
 | refl (H:AHeap):Ghosts H H
 | trunc {H H1:AHeap} (h:Ghosts H H1) (id i off q hi:Nat) (k kq:Blk) (c:List D) (hk:H1.get id=some k) (hf:k.fz=false) (hc:k.es[i]?=some c) (hq:H1.get q=some kq) (hn:c[off]?=some (.win q kq.es.length 0 hi)) (hqf:kq.fz=false) (hne:id≠q):Ghosts H (A9 H1 id i off q hi)
 | step {H H1:AHeap} (h:Ghosts H H1) (id i off ty sz:Nat) (k:Blk) (c:List D) (hk:H1.get id=some k) (hf:k.fz=false) (hc:k.es[i]?=some c) (hn:c[off]?=some .nil):Ghosts H (GP H1 id i off ty sz)
def sO (next:dA->AHeap->Prop)(Q:Exit->dA->AHeap->Prop):Exit->dA->AHeap->Prop
 | .normal,e,H=>next e H
 | ex,e,H=>Q ex e H
def Bh (id:Nat)(Q:Exit->dA->AHeap->Prop):Exit->dA->AHeap->Prop
 | .exit id',e,H=>if id'=id then Q .normal e H else Q (.exit id') e H
 | ex,e,H=>Q ex e H
def nW (P:Program)(c:Cfg):Code->(Exit->dA->AHeap->Prop)->dA->AHeap->Prop
 | .skip,Q,e,H=>Q .normal e H
 | .region id ops dr,Q,e,H =>
  if dr then kL P c.own ops (c.sp id) H.next 0 ops.toList [] e { H with next:=H.next+ops.size } (Q .normal)
  else lM P c.own ops ops.toList e H (Q .normal)
 | .seq a b,Q,e,H=>nW P c a (sO (nW P c b Q) Q) e H
 | .cond x a b,Q,e,H=>match eH e x with
  | .bool t=>(t=true->nW P c a Q e H)/\(t=false->nW P c b Q e H)
  | _=>False
 | .block id b,Q,e,H=>nW P c b (Bh id Q) e H
 | .loop b,Q,e,H=>∃ I:Nat->dA->AHeap->Prop,(∃ H',Ghosts H H'/\∃ k,I k e H')/\∀ k e' H',I k e' H'->nW P c b (sO (λe'' H''=>∃ H3,Ghosts H'' H3/\∃ k',k'<k/\I k' e'' H3) Q) e' H'
 | .exit id,Q,e,H=>Q (.exit id) e H
 | .ret,Q,e,H=>Q .ret e H
 | _,_,_,_=>False
def oG (c:Cfg)(n:Nat):Code->Bool
 | .region id ops dr=>(ops.toList.all λo=>p8 n o.dst)&&(!dr||vO c.own ops (c.sp id))
 | .seq a b=>oG c n a&&oG c n b
 | .cond _ a b=>oG c n a&&oG c n b
 | .block _ b=>oG c n b
 | .loop b=>oG c n b
 | _=>true
section
variable {P:Program} {c:Cfg} {n:Nat} {M0:Nat→Prop}
theorem g8 {x:Code}{Q Q':Exit->Act->World->Prop}{a:Act}{w:World}(h:x.wp P Q a w)(hq:∀ e a w,Q e a w->Q' e a w):x.wp P Q' a w:=wp_mono h hq
theorem fO {p:Nat->Prop}(h:∃ k,p k):∃ k,p k/\∀ j,j<k->¬ p j:=by
 obtain ⟨k,hk⟩:=h
 induction k using Nat.strongRecOn with
 | _ k ih =>
  grind
def QI (n:Nat)(M0:Nat->Prop)(H0:AHeap)(σ0:Nat->Option Ow)(w0:World)(Q:Exit->dA->AHeap->Prop)(ex:Exit)(a:Act)(w:World):Prop:=Came n M0 H0 σ0 w0 (Q ex) a w
theorem wE {sz:Nat}(d:D)(off:Nat)(c:List D):∀ (es:List (List D)) (i:Nat),(∀ c∈es,c.length=sz)->es[i]?=some c->off<sz->(es.set i (c.set off d)).flatten=es.flatten.set (i * sz+off) d
 | [],i,_,h,_=>by simp at h
 | a :: es,0,hl,h,ho=>by
  simp at h;subst h
  have:=hl a aF
  simp only [uF,d9,Nat.zero_mul,d8]
  rw [List.set_append_left _ _ aD]
 | a :: es,i+1,hl,h,ho=>by
  have ha:=hl a aF
  simp at h
  have ih:=wE d off c es i (λc hc=>hl c (by simp [hc])) h ho
  simp only [DI,d9,ih]
  rw [List.set_append_right _ _ (by rw [Nat.add_mul];omega)]
  congr 2
  rw [ha,Nat.add_mul];omega
theorem Na {H:AHeap}{σ:Nat->Option Ow}{w:World}(B:Rel M0 H σ w){f i a ty sz:Nat}{k:Blk}{m:List D}(z:H.get f=some k)(X:k.fz=false)(r:k.es[i]?=some m)(hn:m[a]?=some .nil) :
  ∃ σ',Rel M0 (GP H f i a ty sz) σ' w/\Stp σ w σ' w/\Keeps (cX M0 H σ) σ H.al w (cX M0 (GP H f i a ty sz) σ') σ' (GP H f i a ty sz).al w:=by
 have A:¬ H.al H.next:=λh=>nQ _ (B.nxt _ h)
 have I:H.al f:=bA λhn=>by rw [(B.top f hn).2] at z;cases z
 have y:f≠H.next:=λh=>A (h ▸ I)
 obtain ⟨S,R,M⟩:=Rel.push B H.next A (w':=w) rfl rfl rfl (bC _) (λ_ _=>rfl) ⟨ty,sz,[],false⟩ ⟨0,.slice none 0 0,sz,ty⟩ (λb hb=>by simp [Ow.block,Value.ownBlock] at hb) rfl rfl rfl (λc r=>by simp at r) []
  ⟨by simp,.inl ⟨rfl,rfl⟩⟩ aF ⟨rfl,λj u d hu=>by simp at hu⟩
 obtain ⟨o,U,l⟩:=B.lies f k z
 obtain ⟨N,t,C,v⟩:=l.row
 have G:(H.push H.next ⟨ty,sz,[],false⟩).get f=some k:=by simp [AHeap.push,y,z]
 have E:(λi=>if i=H.next then some (⟨0,.slice none 0 0,sz,ty⟩:Ow) else σ i) f=some o:=by simp [y,U]
 have n:=l.esz m (aI r)
 have g:a<o.esz:=by rw [<- n];exact (aL.1 hn).1
 have p:∀ c∈k.es.set i (m.set a (.own H.next 0)),c.length=o.esz:=λc K=>by
  rcases gI K with h|h
  .exact l.esz c h
  grind
 have J:=wE (D.own H.next 0) a m k.es i l.esz r g
 obtain ⟨Q,P,O⟩:=Rel.put S G X E { k with es:=k.es.set i (m.set a (.own H.next 0)) } o ⟨rfl,rfl,rfl,bC _,λ_ _ _=>rfl⟩ (λb hb=>.inl hb) (.inl rfl) (by simp [l.ver]) l.ty l.sz p N (bS t) C (by
   have e:=v.keep M
   simp only
   rw [J]
   refine ⟨by simpa using e.len,λj u d hu q=>?_⟩
   rw [cE] at q
   split at q
   .rename_i V
    split at q
    .cases q
     have x:k.es.flatten[j]?=some .nil:=by
      rw [<- V,l8 k.es i m l.esz r a g];exact hn
     have T:=e.rep j u _ hu x
     cases T
     exact .own _ _ _ (.inl rfl) rfl λo' ho'=>by simp at ho';subst ho';exact .inr ⟨rfl,rfl⟩
    .cases q
   .exact e.rep j u d hu q)
 have W:GP H f i a ty sz=(H.push H.next ⟨ty,sz,[],false⟩).put f { k with es:=k.es.set i (m.set a (.own H.next 0)) }:=by
  simp only [GP,z,r,Option.getD_some]
  unfold AHeap.push AHeap.put
  grind
 rw [W]
 exact ⟨_,Q,R.trans P,M.trans O⟩
theorem CQ {sz:Nat}:∀ (es:List (List D)) (n:Nat),(∀ c∈es,c.length=sz)->(es.take n).flatten=es.flatten.take (n * sz)
 | [],n,_=>by simp
 | a :: es,0,_=>by simp
 | a :: es,n+1,h=>by
  have ha:=h a aF
  rw [sI,d9,d9,CQ es n λc hc=>h c (by simp [hc]),Nat.add_mul,Nat.one_mul,Nat.add_comm,<- ha,List.take_length_add_append]
theorem QQ {H:AHeap}{σ:Nat->Option Ow}{w:World}(hR:Rel M0 H σ w){q hi n:Nat}{kq:Blk}{oq:Ow}(hq:H.get q=some kq)(hqf:kq.fz=false)(hoq:σ q=some oq)(hn:¬ H.al n){v:Value}(hh:hi<=kq.es.length)(hv:TS oq v kq.es.length 0 hi) :
  let σ':Nat->Option Ow:=λi=>if i=n then some ⟨hi,v,oq.esz,oq.ty⟩ else if i=q then none else σ i
  Rel M0 ((H.drop q).push n ⟨kq.ty,kq.sz,kq.es.take hi,false⟩) σ' w/\Stp σ w σ' w/\Keeps (cX M0 H σ) σ H.al w (cX M0 ((H.drop q).push n ⟨kq.ty,kq.sz,kq.es.take hi,false⟩) σ') σ' ((H.drop q).push n ⟨kq.ty,kq.sz,kq.es.take hi,false⟩).al w:=by
 intro σ'
 have hqal:H.al q:=bA λh=>by rw [(hR.top q h).1] at hoq;cases hoq
 have hqn:q≠n:=λe=>hn (e ▸ hqal)
 have hblk:∀ b,v.ownBlock=some b->oq.block=some b:=λb hb=>by
  rcases hv with ⟨_,rfl,_⟩|⟨b',cap,h1,h2,rfl⟩
  .simp [Value.ownBlock] at hb
  .simp only [Value.ownBlock] at hb
   simp only [Ow.block,h1,Value.ownBlock]
   rw [<- hb];split<;>rfl
 have hmut:∀ b,cX M0 ((H.drop q).push n ⟨kq.ty,kq.sz,kq.es.take hi,false⟩) σ' b->cX M0 H σ b:=by
  rintro b (hm|⟨i,k',o',hk',hf,ho',hb'⟩)
  .exact .inl hm
  .by_cases h1:i=n
   .simp only [σ',h1,if_true,bD] at ho'
    subst ho'
    exact .inr ⟨q,kq,oq,hq,hqf,hoq,hblk b hb'⟩
   .by_cases h2:i=q
    .simp only [σ',h2,if_false,if_true,hqn] at ho';cases ho'
    .simp only [σ',h1,h2,if_false] at ho'
     simp only [AHeap.push,AHeap.drop,h1,h2,if_false] at hk'
     exact .inr ⟨i,k',o',hk',hf,ho',hb'⟩
 have hkeep:Keeps (cX M0 H σ) σ H.al w (cX M0 ((H.drop q).push n ⟨kq.ty,kq.sz,kq.es.take hi,false⟩) σ') σ' ((H.drop q).push n ⟨kq.ty,kq.sz,kq.es.take hi,false⟩).al w:=by
  refine ⟨λad u hm hu=>⟨λh=>hm (hmut _ h),hu⟩,λi o' hi' ho'=>?_,λi hi'=>.inr hi'⟩
  have h1:i≠n:=λe=>hn (e ▸ hi')
  by_cases h2:i=q
  .simp only [σ',h2,if_true,hqn,if_false] at ho';cases ho'
  .simp only [σ',h1,h2,if_false] at ho'
   exact ⟨o',ho',.inl rfl⟩
 have hold:∀ {i o'},i≠n->σ' i=some o'->i≠q/\σ i=some o':=λ {i o'} h1 ho'=>by
  by_cases h2:i=q
  .simp only [σ',h2,if_true,hqn,if_false] at ho';cases ho'
  .simp only [σ',h1,h2,if_false] at ho';exact ⟨h2,ho'⟩
 obtain ⟨o2,ho2,l⟩:=hR.lies q kq hq
 rw [hoq] at ho2;cases ho2
 obtain ⟨xs,hrow,hx1,hrep⟩:=l.row
 refine ⟨⟨λi hi'=>?_,λi hi'=>?_,λi k' hk'=>?_,λi j oi oj b hi' hj' hbi hbj=>?_,λi oi b hi' hbi=>?_,hR.m0⟩,⟨rfl,rfl,rfl,bC _,λ_ _ _=>rfl,λi o' b ho' hb'=>?_⟩,hkeep⟩
 .have hi2:¬ (i=n\/H.al i):=hi'
  have h1:i≠n:=λe=>hi2 (.inl e)
  have h2:i≠q:=λe=>hi2 (.inr (e ▸ hqal))
  simp only [σ',AHeap.push,AHeap.drop,h1,h2,if_false]
  exact hR.top i λe=>hi2 (.inr e)
 .have hi2:i=n\/H.al i:=hi'
  have he:((H.drop q).push n ⟨kq.ty,kq.sz,kq.es.take hi,false⟩).next=if n<H.next then H.next else n+1:=rfl
  rw [he]
  rcases hi2 with rfl|hi2
  .by_cases h:i<H.next
   .rw [if_pos h];exact h
   .rw [if_neg h];omega
  .have:=hR.nxt i hi2
   by_cases h:n<H.next
   .rw [if_pos h];exact this
   .rw [if_neg h];omega
 .by_cases h1:i=n
  .simp only [AHeap.push,h1,if_true,bD] at hk'
   subst hk'
   refine ⟨⟨hi,v,oq.esz,oq.ty⟩,by simp [σ',h1],by simp;omega,l.ty,l.sz,λc hc=>l.esz c (cK hc),xs.take (hi * oq.esz),⟨?_,?_⟩,λu hu=>hx1 u (cK hu),?_⟩
   .have:=hrow.1
    have h2:hi * oq.esz<=kq.es.length * oq.esz:=eQ _ hh
    simp only [bQ]
    rw [Nat.min_eq_left hh,Nat.min_eq_left aD]
   .have hm:(kq.es.take hi).length=hi:=by simp;omega
    simp only [hm]
    rcases hv with ⟨h1,h2,h3⟩|⟨b',cap,h1,h2,h3⟩
    .exact .inl ⟨h2,h3⟩
    .rcases hrow.2 with ⟨hn0,_⟩|⟨g,cap',cur,e1,e2,e3,e4,e5,e6,e7⟩
     .rw [h1] at hn0;cases hn0
     .rw [h1] at e1;cases e1
      refine .inr ⟨b',cap,cur,?_,eJ _,e3,aD,e5,e6,?_⟩
      .rw [h3];simp
      .rw [<- e7,List.take_take,Nat.min_eq_left (eQ _ hh)]
   .have hr:=hrep.keep hkeep
    refine ⟨?_,λj u d hu hd=>?_⟩
    .simp only
     rw [CQ kq.es hi l.esz]
     simp [hr.len]
    .simp only at hd
     rw [CQ kq.es hi l.esz,bU] at hd
     rw [bU] at hu
     split at hd
     .rename_i hj;rw [if_pos hj] at hu;exact hr.rep j u d hu hd
     .cases hd
  .by_cases h2:i=q
   .simp only [AHeap.push,AHeap.drop,h2,if_false,if_true,hqn] at hk';cases hk'
   .simp only [AHeap.push,AHeap.drop,h1,h2,if_false] at hk'
    obtain ⟨o',ho',l'⟩:=hR.lies i k' hk'
    obtain ⟨xs',a1,a2,a3⟩:=l'.row
    exact ⟨o',by simp [σ',h1,h2,ho'],l'.ver,l'.ty,l'.sz,l'.esz,xs',a1,a2,a3.keep hkeep⟩
 .by_cases h1:i=n<;>by_cases h2:j=n
  .rw [h1,h2]
  .simp only [σ',h1,if_true,bD] at hi'
   subst hi'
   obtain ⟨h3,h4⟩:=hold h2 hj'
   exact absurd (hR.inj j q oj oq b h4 hoq hbj (hblk b hbi)) h3
  .simp only [σ',h2,if_true,bD] at hj'
   subst hj'
   obtain ⟨h3,h4⟩:=hold h1 hi'
   exact absurd (hR.inj i q oi oq b h4 hoq hbi (hblk b hbj)) h3
  .exact hR.inj i j oi oj b (hold h1 hi').2 (hold h2 hj').2 hbi hbj
 .by_cases h1:i=n
  .simp only [σ',h1,if_true,bD] at hi'
   subst hi'
   exact hR.lt q oq b hoq (hblk b hbi)
  .exact hR.lt i oi b (hold h1 hi').2 hbi
 .by_cases h1:i=n
  .simp only [σ',h1,if_true,bD] at ho'
   subst ho'
   exact .inr ⟨q,oq,hoq,hblk b hb'⟩
  .exact .inr ⟨i,o',(hold h1 ho').2,hb'⟩
theorem KD {H:AHeap}{σ:Nat->Option Ow}{w:World}(J:Rel M0 H σ w){f i a q e:Nat}{k kq:Blk}{s:List D}(G:H.get f=some k)(hf:k.fz=false)(L:k.es[i]?=some s)(R:H.get q=some kq)
  (hn:s[a]?=some (.win q kq.es.length 0 e)) (Q:kq.fz=false) (F:f≠q) :
  ∃ σ',Rel M0 (A9 H f i a q e) σ' w/\Stp σ w σ' w/\Keeps (cX M0 H σ) σ H.al w (cX M0 (A9 H f i a q e) σ') σ' (A9 H f i a q e).al w:=by
 have I:¬ H.al H.next:=λh=>nQ _ (J.nxt _ h)
 have X:H.al f:=bA λhn=>by rw [(J.top f hn).2] at G;cases G
 have r:f≠H.next:=λh=>I (h ▸ X)
 obtain ⟨K,C,lq⟩:=J.lies q kq R
 obtain ⟨o,ho,l⟩:=J.lies f k G
 obtain ⟨M,B,A,m⟩:=l.row
 have t:=l.esz s (aI L)
 have p:a<o.esz:=by rw [<- t];exact (aL.1 hn).1
 have n:k.es.flatten[i * o.esz+a]?=some (.win q kq.es.length 0 e):=by rw [l8 k.es i s l.esz L a p];exact hn
 have U:i * o.esz+a<M.length:=by rw [m.len];exact (aL.1 n).1
 obtain ⟨v,N⟩:∃ v,M[i * o.esz+a]?=some v:=⟨_,aA U⟩
 have P:=m.rep _ v _ N n
 have E:v.oneCell'=true:=A v (aI N)
 obtain ⟨hh,hw⟩:e<=kq.es.length/\TS K v kq.es.length 0 e:=by
  cases P
  rename_i _ _ V h
  refine ⟨V.2,?_⟩
  rcases h K C with h'|⟨_,h'⟩
  .have:=lq.ver;omega
  .exact h'
 obtain ⟨p1,p2,p3⟩:=QQ J R Q C I hh hw
 have W:((H.drop q).push H.next ⟨kq.ty,kq.sz,kq.es.take e,false⟩).get f=some k:=by simp [AHeap.push,AHeap.drop,r,F,G]
 have S:(λi=>if i=H.next then some (⟨e,v,K.esz,K.ty⟩:Ow) else if i=q then none else σ i) f=some o:=by simp [r,F,ho]
 have x:∀ c∈k.es.set i (s.set a (.own H.next e)),c.length=o.esz:=λc Z=>by
  rcases gI Z with h|h
  .exact l.esz c h
  grind
 have Y:=wE (D.own H.next e) a s k.es i l.esz L p
 obtain ⟨q1,q2,q3⟩:=Rel.put p1 W hf S { k with es:=k.es.set i (s.set a (.own H.next e)) } o ⟨rfl,rfl,rfl,bC _,λ_ _ _=>rfl⟩ (λb hb=>.inl hb) (.inl rfl) (by simp [l.ver]) l.ty l.sz x M (bS B) A (by
   have g:=m.keep p3
   simp only
   rw [Y]
   refine ⟨by simpa using g.len,λj u d O y=>?_⟩
   rw [cE] at y
   split at y
   .rename_i hj
    split at y
    .cases y
     rw [<- hj,N] at O
     cases O
     exact .own _ _ _ (.inl rfl) E λo' ho'=>by simp at ho';subst ho';exact .inr ⟨rfl,rfl⟩
    .cases y
   .exact g.rep j u d O y)
 have hg:A9 H f i a q e=((H.drop q).push H.next ⟨kq.ty,kq.sz,kq.es.take e,false⟩).put f { k with es:=k.es.set i (s.set a (.own H.next e)) }:=by
  simp only [A9,G,R,L,Option.getD_some]
 rw [hg]
 exact ⟨_,q1,p2.trans q2,p3.trans q3⟩
theorem wD {H H':AHeap}(j:Ghosts H H'){σ:Nat->Option Ow}{w:World}(l:Rel M0 H σ w):∃ σ',Rel M0 H' σ' w/\Stp σ w σ' w/\Keeps (cX M0 H σ) σ H.al w (cX M0 H' σ') σ' H'.al w:=by
 induction j with
 | refl=>exact ⟨σ,l,.refl _ _,.refl _ _ _ _⟩
 | trunc h id i off q hi k kq c hk hf hc hq hn hqf hne ih =>
  obtain ⟨σ1,g,f,e⟩:=ih
  obtain ⟨σ2,d,b,a⟩:=KD g hk hf hc hq hn hqf hne
  exact ⟨σ2,d,f.trans b,e.trans a⟩
 | step h id i off ty sz k c hk hf hc hn ih =>
  obtain ⟨σ1,g,f,e⟩:=ih
  obtain ⟨σ2,d,b,a⟩:=Na (ty:=ty) (sz:=sz) g hk hf hc hn
  exact ⟨σ2,d,f.trans b,e.trans a⟩
theorem St.keeps {H H':AHeap}{σ σ':Nat->Option Ow}{w:World}{e:dA}{a:Act}(hS:St n M0 H σ w e a)(hR:Rel M0 H' σ' w)(hk:Keeps (cX M0 H σ) σ H.al w (cX M0 H' σ') σ' H'.al w):St n M0 H' σ' w e a :=
 ⟨hR,λt=>(hS.env t).keep hk,hS.defers,hS.size⟩
theorem nK (hm:P.follows .mixedOrders=true):∀ (x:Code) (Q:Exit->dA->AHeap->Prop) (e:dA) (H:AHeap),nW P c x Q e H->oG c n x=true ->
  ∀ (σ:Nat->Option Ow) (w:World) (a:Act),St n M0 H σ w e a->x.wp P (QI n M0 H σ w Q) a w
 | .skip,Q,e,H,h,_,σ,w,a,hS=>wp_skip ⟨e,H,σ,h,hS,.refl _ _,.refl _ _ _ _⟩
 | .region id ops dr,Q,e,H,h,hok,σ,w,a,hS=>by
  simp only [oG,aN,cD,cO,cG] at hok
  unfold nW at h
  cases dr with
  | false =>
   simp only [eD,if_false] at h
   exact wp_region_list (Hu ops.toList e H _ h hok.1 σ w a hS λa' w' hc=>hc)
  | true =>
   simp only [if_true] at h
   exact Pp hm (hok.2.resolve_left aF) hok.1 h hS λa' w' hc=>hc
 | .seq x y,Q,e,H,h,hok,σ,w,a,hS=>by
  simp only [oG,aN] at hok
  unfold nW at h
  refine wp_seq (g8 (nK hm x _ e H h hok.1 σ w a hS) λex a' w' hc=>?_)
  cases ex<;>first|exact hc|skip
  obtain ⟨e',H',σ',hq,hS',hst,hk⟩:=hc
  exact g8 (nK hm y Q e' H' hq hok.2 σ' w' a' hS') λex a'' w'' hc'=>Came.trans hst hk hc'
 | .cond x y z,Q,e,H,h,hok,σ,w,a,hS=>by
  simp only [oG,aN] at hok
  unfold nW at h
  have hx:=hS.envR.ev x
  cases hv:eH e x<;>simp only [hv] at h<;>try (exact h.elim)
  rename_i t
  rw [hv] at hx
  have hc:a.eval x=.bool t:=by generalize a.eval x=v at hx;cases hx;rfl
  exact wp_cond_split hc (λht=>nK hm y Q e H (h.1 ht) hok.1 σ w a hS) λht=>nK hm z Q e H (h.2 ht) hok.2 σ w a hS
 | .block id b,Q,e,H,h,hok,σ,w,a,hS=>by
  unfold nW at h
  refine wp_block (g8 (nK hm b _ e H h hok σ w a hS) λex a' w' hc=>?_)
  cases ex<;>first|exact hc|skip
  rename_i id'
  by_cases hid:id'=id
  .subst hid
   show (if id'=id' then QI n M0 H σ w Q .normal a' w' else _)
   rw [if_pos rfl]
   exact Came.mono hc λe' H' h=>by
    have h':(if id'=id' then Q .normal e' H' else Q (.exit id') e' H'):=h
    rw [if_pos rfl] at h';exact h'
  .show (if id'=id then QI n M0 H σ w Q .normal a' w' else QI n M0 H σ w Q (.exit id') a' w')
   rw [if_neg hid]
   exact Came.mono hc λe' H' h=>by
    have h':(if id'=id then Q .normal e' H' else Q (.exit id') e' H'):=h
    rw [if_neg hid] at h';exact h'
 | .loop b,Q,e,H,h,hok,σ,w,a,hS=>by
  unfold nW at h
  obtain ⟨I,⟨H1,hgh,k0,h0⟩,hI⟩:=h
  obtain ⟨σ1,g1,g2,g3⟩:=wD hgh hS.rel
  have hS1:=hS.keeps g1 g3
  let J:Nat->Act->World->Prop:=λk a' w'=>Came n M0 H σ w (I k) a' w'
  have hJ0:J k0 a w:=⟨e,H1,σ1,h0,hS1,g2,g3⟩
  classical
  let μ:Act->World->Nat:=λa' w'=>if hx:∃ k,J k a' w' then Classical.choose (fO hx) else 0
  refine wp_loop (λa' w'=>∃ k,J k a' w') μ ⟨k0,hJ0⟩ λa' w' hx=>?_
  have hμ:μ a' w'=Classical.choose (fO hx):=by simp only [μ,dif_pos hx]
  obtain ⟨e',H',σ',hi,hS',hst,hk⟩:=(xR (fO hx)).1
  refine g8 (nK hm b _ e' H' (hI _ e' H' hi) hok σ' w' a' hS') λex a'' w'' hc=>?_
  have hc':=Came.trans hst hk hc
  cases ex<;>first|exact hc'|skip
  obtain ⟨e2,H20,σ20,⟨H2,hgh2,k',hlt,hk'⟩,hS2,hst2,hk2⟩:=hc'
  obtain ⟨σ2,j1,j2,j3⟩:=wD hgh2 hS2.rel
  have rest:=And.intro (hS2.keeps j1 j3) (And.intro (hst2.trans j2) (hk2.trans j3))
  have hx2:∃ k,J k a'' w'':=⟨k',e2,H2,σ2,hk',rest⟩
  refine ⟨hx2,?_⟩
  have:μ a'' w''=Classical.choose (fO hx2):=by simp only [μ,dif_pos hx2]
  rw [this,hμ]
  refine Nat.lt_of_le_of_lt ?_ hlt
  rcases bX k' (Classical.choose (fO hx2)) with hlt'|hge
  .exact absurd ⟨e2,H2,σ2,hk',rest⟩ ((xR (fO hx2)).2 k' hlt')
  .exact hge
 | .exit id,Q,e,H,h,_,σ,w,a,hS=>wp_exit ⟨e,H,σ,h,hS,.refl _ _,.refl _ _ _ _⟩
 | .ret,Q,e,H,h,_,σ,w,a,hS=>wp_ret ⟨e,H,σ,h,hS,.refl _ _,.refl _ _ _ _⟩
 | .rangeFunc ..,Q,e,H,h,_,_,_,_,_=>h.elim
 | .scope ..,Q,e,H,h,_,_,_,_,_=>h.elim
 | .label ..,Q,e,H,h,_,_,_,_,_=>h.elim
 | .goto ..,Q,e,H,h,_,_,_,_,_=>h.elim
 | .refuse ..,Q,e,H,h,_,_,_,_,_=>h.elim
end
end Go.Abs
end
section
namespace Go.Abs
def CE (P:Program):List ResultVar->dA->AHeap->(List D->Prop)->Prop
 | [],_,_,K=>K []
 | .tmp t :: r,e,H,K=>CE P r e H λl=>K (e t :: l)
 | .cell a ty :: r,e,H,K=>(mV P ty (e a) H).cond/\CE P r e H λl=>K ((mV P ty (e a) H).val :: l)
def Fn:List D->D
 | [d]=>d
 | l=>.tup l
def Q0 (P:Program)(rs:List ResultVar)(Q:D->AHeap->Prop):Exit->dA->AHeap->Prop
 | .normal,e,H=>CE P rs e H λl=>Q (Fn l) H
 | .ret,e,H=>CE P rs e H λl=>Q (Fn l) H
 | _,_,_=>False
def Au (args:List D):dA:=λt=>args.getD t .junk
def C0 (tmps:Array Value):ResultVar->Sem Value
 | .tmp t=>Pure.pure (tmps.getD t undef)
 | .cell x t=>do loadVar t (<- asAddr (tmps.getD x undef))
section
variable {P:Program} {M0:Nat→Prop} {H:AHeap} {σ:Nat→Option Ow} {w:World} {n:Nat} {e:dA} {a:Act}
theorem wP (hS:St n M0 H σ w e a):∀ (rs:List ResultVar) (K:List D->Prop),CE P rs e H K ->
  ∃ vs l,Sem.run P (rs.mapM (C0 a.tmps)) w=Result.ok vs w/\RepL (cX M0 H σ) σ H.al w vs l/\K l
 | [],K,h=>⟨[],[],by simp,⟨rfl,λj u d hu=>by simp at hu⟩,h⟩
 | .tmp t :: rs,K,h=>by
  obtain ⟨vs,l,h1,h2,h3⟩:=wP hS rs _ h
  refine ⟨a.tmps.getD t undef :: vs,e t :: l,by simp [List.mapM_cons,C0,h1],⟨by simp [h2.len],λj u d hu hd=>?_⟩,h3⟩
  cases j with
  | zero=>simp only [kM,bD] at hu hd;subst hu;subst hd;exact hS.env t
  | succ j=>exact h2.rep j u d (bS hu) (bS hd)
 | .cell x t :: rs,K,h=>by
  obtain ⟨vs,l,h1,h2,h3⟩:=wP hS rs _ h.2
  obtain ⟨_,_,v,hr,hv⟩:=MV (P:=P) hS.rel (hS.env x) h.1
  have hld:Sem.run P (C0 a.tmps (.cell x t)) w=.ok v w:=by
   simp only [C0]
   unfold Instr.loadAt at hr
   generalize a.tmps.getD x undef=q at hr ⊢
   cases q with
   | pointer p=>cases p with
    | some ad=>simpa [Instr.sureAddr,asAddr] using hr
    | none=>simp [Instr.sureAddr,stuck] at hr
   | _=>simp [Instr.sureAddr,stuck] at hr
  refine ⟨v :: vs,_ :: l,by simp [List.mapM_cons,hld,h1],⟨by simp [h2.len],λj u d hu hd=>?_⟩,h3⟩
  cases j with
  | zero=>simp only [kM,bD] at hu hd;subst hu;subst hd;exact hv
  | succ j=>exact h2.rep j u d (bS hu) (bS hd)
theorem DS {fn:Func}{vs:List Value}{l:List D}(h:Sem.run P (fn.results.toList.mapM (C0 a.tmps)) w=.ok vs w)(b:RepL (cX M0 H σ) σ H.al w vs l) :
  ∃ v,(results fn a.tmps).run P w=.ok v w/\RepV (cX M0 H σ) σ H.al w v (Fn l):=by
 have c:results fn a.tmps=(do let vs <- fn.results.mapM (C0 a.tmps);Pure.pure (if h:vs.size=1 then vs[0] else .tuple vs)):=rfl
 rw [c,Array.mapM_eq_mapM_toList]
 refine ⟨if h:vs.toArray.size=1 then vs.toArray[0] else .tuple vs.toArray,by simp [h],?_⟩
 by_cases f:vs.length=1
 .match vs,f,b with
  | [v],_,b =>
   match l,b with
   | [d],b=>simpa [Fn] using b.rep 0 v d rfl rfl
   | [],b=>have:=b.len;simp at this
   | _ :: _ :: _,b=>have:=b.len;simp at this
 .have e:¬ vs.toArray.size=1:=by simpa using f
  rw [dif_neg e]
  have g:Fn l=.tup l:=by
   match l,b with
   | [],_=>rfl
   | [d],b=>have:=b.len;simp at this;exact absurd this f
   | _ :: _ :: _,_=>rfl
  rw [g]
  exact .tup vs l b.len b.rep
theorem aG {f:FuncId}{fn:Func}{x:Code}{cfg:Cfg}{args:List D}{Q:D->AHeap->Prop}(u:P.follows .mixedOrders=true)(r:P.funcs[f]?=some fn)(s:fn.body=some x)
  (j:(fn.name=="runtime.NumGoroutine")=false) (q:args.length<=fn.ntmps) (i:oG cfg fn.ntmps x=true)
  (h:nW P cfg x (Q0 P fn.results.toList Q) (Au args) H):ACalls P f args H Q:=by
 refine ⟨⟨fn,r,j,by simp [s]⟩,λM0 σ w vals A ha=>calls_of_wp r s ?_⟩
 have z:St fn.ntmps M0 H σ w (Au args) { tmps:=vals.toArray++Array.replicate (fn.ntmps - vals.toArray.size) undef,defers:=[] }:=by
  refine ⟨A,λt=>?_,rfl,by simp [ha.len];omega⟩
  simp only [Au]
  by_cases p:t<vals.length
  .have m:vals[t]?=some vals[t]:=aA p
   have k:args[t]?=some (args[t]'(by rw [<- ha.len];exact p)):=aA _
   have:=ha.rep t _ _ m k
   simp only [Option.getD_some,iU]
   grind
  .rw [List.getD_eq_getElem?_getD,bE (by rw [<- ha.len];omega)]
   exact .junk _
 refine g8 (nK u x _ _ H h i σ w _ z) λex a' w' hc=>?_
 obtain ⟨C,o,σ',b,a,g,y⟩:=hc
 have n:CE P fn.results.toList C o (λl=>Q (Fn l) o)->a'.defers=[]/\∃ v,(results fn a'.tmps).run P w'=.ok v w' /\
   ∃ v2 d H2 σ2,Ending.returned v=.returned v2/\Rel M0 H2 σ2 w'/\RepV (cX M0 H2 σ2) σ2 H2.al w' v2 d/\Stp σ w σ2 w'/\Keeps (cX M0 H σ) σ H.al w (cX M0 H2 σ2) σ2 H2.al w'/\Q d H2:=by
  intro b
  obtain ⟨E,l,m,k,B⟩:=wP a _ _ b
  obtain ⟨v,e,c⟩:=DS (fn:=fn) m k
  exact ⟨a.defers,v,e,v,_,o,σ',rfl,a.rel,c,g,y,B⟩
 cases ex<;>first|exact n b|exact b.elim
end
/-! ### pure contracts -/
theorem CI {l:List D}(h:∀ d∈l,d.cl=true):D.clL l=true:=by
 induction l with
 | nil=>rfl
 | cons a l ih=>simp [D.clL,h a aF,ih λd hd=>h d (by simp [hd])]
def gQ:Nat->Option Ow:=λ_=>none
def p5:Nat->Prop:=λ_=>False
def Pure (P:Program)(f:FuncId)(args:List D)(r:D):Prop :=
 VE P f/\∀ (M:Nat->Prop) (w:World) (vals:List Value),(∀ b,M b->b<w.heap.size)->RepL M gQ p5 w vals args ->
  Calls P f vals.toArray w λe w'=>∃ v,e=.returned v/\RepV M gQ p5 w' v r/\RowKit.Below w.heap.size w w'
def Own (P:Program)(f:FuncId)(args:List D)(ty:TypeId)(sz:Nat)(es:List (List D)):Prop :=
 VE P f/\∀ (M:Nat->Prop) (w:World) (vals:List Value),(∀ b,M b->b<w.heap.size)->RepL M gQ p5 w vals args ->
  Calls P f vals.toArray w λe w'=>∃ v xs,e=.returned v/\w'.ownsRow w.heap.size ty sz v es.length xs/\(∀ u∈xs,u.oneCell'=true)/\RepL (λb=>M b\/v.ownBlock=some b) gQ p5 w' xs es.flatten/\D.clLL es=true/\(∀ c∈es,c.length=sz) /\
   RowKit.Below w.heap.size w w'
def oX (H:AHeap):D->D
 | .tup vs=>.tup (vs.map (iP H))
 | d=>iP H d
def C6:D->List Nat
 | .tup vs=>vs.flatMap dK
 | d=>dK d
section
variable {P:Program} {M0:Nat→Prop} {H:AHeap} {σ:Nat→Option Ow} {w:World}
theorem sR {v:Value}{d:D}(g:Rel M0 H σ w)(b:RepV (cX M0 H σ) σ H.al w v d)(a:List Nat)(f:∀ i∈C6 d,i∈a) :
  RepV (cX M0 (fE a H) σ) σ (fE a H).al w v (oX H d):=by
 cases d with
 | tup vs =>
  cases b
  rename_i h l k
  refine .tup h _ (bS l) λj u x hu b=>?_
  rw [aH,bL] at b
  obtain ⟨y,e,rfl⟩:=b
  exact lS g (k j u y hu e) a λi c=>f i (by simp only [C6,bH];exact ⟨y,aI e,c⟩)
 | _=>exact lS g b a f
theorem E5 (M:Nat->Prop):cX M .emp gQ=M:=by
 funext b
 exact propext ⟨λh=>h.elim (λh=>h) λ⟨_,_,_,h,_⟩=>by simp [AHeap.emp] at h,.inl⟩
theorem EX (M:Nat->Prop)(w:World)(hM:∀ b,M b->b<w.heap.size):Rel M .emp gQ w :=
 ⟨λ_ _=>⟨rfl,rfl⟩,λ_ h=>h.elim,λ_ _ h=>by simp [AHeap.emp] at h,λ_ _ _ _ _ h=>by simp [gQ] at h,λ_ _ _ h=>by simp [gQ] at h,hM⟩
theorem zI {σ':Nat->Option Ow}{w':World}(h:Stp gQ w σ' w'):RowKit.Below w.heap.size w w' :=
 ⟨h.os,h.tape,h.output,h.size,λb hb=>h.old b hb λ_ _ h=>by simp [gQ] at h⟩
theorem aU {f:FuncId}{args:List D}{r:D}(h:ACalls P f args .emp λd H'=>oX H' d=r/\r.cl=true):Pure P f args r:=by
 refine ⟨h.1,λM w vals hM ha=>(h.2 M gQ w vals (EX M w hM) (by rw [E5];exact ha)).mono λe w' ⟨v,d,H',σ',k,m,g,a,n,j,b⟩=>⟨v,k,?_,zI a⟩⟩
 have c:=sR m g (C6 d) λi hi=>hi
 rw [j] at c
 exact c.closed (λad u hm l=>⟨λh=>hm (.inl h),l⟩) b
theorem BR {f:FuncId}{args:List D}{ty:TypeId}{sz:Nat}{es:List (List D)}
  (h:ACalls P f args .emp λd H'=>∃ id k,d=.own id es.length/\H'.get id=some k/\k.es=es/\k.ty=ty/\k.sz=sz/\k.fz=false/\D.clLL es=true):Own P f args ty sz es:=by
 refine ⟨h.1,λM w vals hM ha=>(h.2 M gQ w vals (EX M w hM) (by rw [E5];exact ha)).mono λe w' ⟨v,d,H',σ',K,L,H,n,Q,id,k,q,i,r,N,B,y,p⟩=>?_⟩
 subst q;subst r;subst N;subst B
 obtain ⟨o,x,l⟩:=L.lies id k i
 obtain ⟨G,a,t,b⟩:=l.row
 cases H
 rename_i _ _ m
 rcases m o x with J|⟨_,rfl⟩
 .have:=l.ver;omega
 .refine ⟨o.val,G,K,?_,t,⟨b.len,λj u d hu q=>(b.rep j u d hu q).closed (λad u hm A=>⟨λh=>hm (h.elim .inl λh=>.inr ⟨id,k,o,i,y,x,h⟩),A⟩) ?_⟩,p,λc A=>(l.esz c A).trans l.sz,zI n⟩
  .rw [<- l.sz]
   refine ⟨a.1,?_⟩
   rcases a.2 with I|⟨g,E,C,r,_,B⟩
   .exact .inl I
   .refine .inr ⟨g,E,C,r,?_,B⟩
    rcases n.new id o g x (by simp [Ow.block,r,Value.ownBlock]) with h|⟨_,O,h,_⟩
    .exact h
    .simp [gQ] at h
  .obtain ⟨c,z,s⟩:=i9.1 (aI q)
   exact jK (pF p c z) d s
theorem yR {M:Nat->Prop}{N:Nat->Prop}:Keeps M gQ p5 w M σ N w:=⟨λ_ _ h k=>⟨h,k⟩,λ_ _ h=>h.elim,λ_ h=>h.elim⟩
theorem gC {M M':Nat->Prop}{N N':Nat->Prop}{σ':Nat->Option Ow}(hM:∀ b,¬ M b->¬ M' b){vs:List Value}{ds:List D}(h:RepL M σ N w vs ds)(hc:D.clL ds=true):RepL M' σ' N' w vs ds :=
 ⟨h.len,λj u d hu hd=>(h.rep j u d hu hd).closed (λad u hm hc=>⟨hM _ hm,hc⟩) (jK hc d (aI hd))⟩
theorem tV (a:Rel M0 H σ w):∀ b,cX M0 H σ b->b<w.heap.size:=by
 rintro b (h|⟨i,k,o,_,_,c,d⟩)
 .exact a.m0 b h
 .exact (a.lt i o b c d).1
theorem rA {f:FuncId}{args:List D}{r:D}{Q:D->AHeap->Prop}(c:Pure P f args r)(b:D.clL args=true)(i:Q r H):ACalls P f args H Q:=by
 refine ⟨c.1,λM0 σ w vals hR ha=>(c.2 (cX M0 H σ) w vals (tV hR) (gC (λ_ h=>h) ha b)).mono λe w' ⟨v,g,d,a⟩=>?_⟩
 obtain ⟨l,k,j⟩:=hR.grow a.os a.tape a.output a.size a.block
 exact ⟨v,r,H,σ,g,l,d.keep yR,k,j,i⟩
theorem BF {M0:Nat->Prop}(hR:Rel M0 H σ w){vals:List Value}{args:List D}(ha:RepL (cX M0 H σ) σ H.al w vals args)(ids:List Nat)(hi:∀ i∈args.flatMap dK,i∈ids) :
  RepL (cX M0 (fE ids H) σ) σ (fE ids H).al w vals (args.map (iP H)) :=
 ⟨by simpa using ha.len,λj u d hu hd=>by
  rw [aH,bL] at hd
  obtain ⟨y,hy,rfl⟩:=hd
  exact lS hR (ha.rep j u y hu hy) ids λi hii=>hi i (bH.2 ⟨y,aI hy,hii⟩)⟩
def D.flat1:D->Bool
 | .int .. | .bool _ | .str _ | .nil | .nilp | .nilf=>true
 | _=>false
def D.flat:D->Bool
 | .tup vs=>vs.all D.flat1
 | d=>d.flat1
theorem Jl {M c:Nat->Prop}{N b:Nat->Prop}{σ σ':Nat->Option Ow}{w w':World}{v:Value}{d:D}(h:RepV M σ N w v d)(a:d.flat1=true):RepV c σ' b w' v d:=by
 cases h<;>first|(simp [D.flat1] at a;done)|constructor
theorem y0 {M g:Nat->Prop}{N f:Nat->Prop}{σ σ':Nat->Option Ow}{w w':World}{v:Value}{d:D}(h:RepV M σ N w v d)(a:d.flat=true):RepV g σ' f w' v d:=by
 cases d with
 | tup vs =>
  cases h
  rename_i b e c
  simp only [D.flat,cD] at a
  exact .tup b vs e λj u x hu hx=>Jl (c j u x hu hx) (a x (aI hx))
 | _=>exact Jl h a
theorem wS {f:FuncId}{args:List D}{r:D}{Q:D->AHeap->Prop}(c:Pure P f (args.map (iP H)) r)(b:D.clL (args.map (iP H))=true)(g:r.flat=true)(k:Q r H):ACalls P f args H Q:=by
 refine ⟨c.1,λM0 σ w vals hR ha=>?_⟩
 obtain ⟨o,s,q,p⟩:=fH (args.flatMap dK) hR
 refine (c.2 (cX M0 (fE (args.flatMap dK) H) σ) w vals (tV o) (gC (λ_ h=>h) (BF hR ha _ λi h=>h) b)).mono λe w' ⟨v,j,d,a⟩=>?_
 obtain ⟨n,m,l⟩:=hR.grow a.os a.tape a.output a.size a.block
 exact ⟨v,r,H,σ,j,n,y0 d g,m,l,k⟩
theorem Lc {f:FuncId}{args:List D}{r:D}{Q:D->AHeap->Prop}(c:Pure P f (args.map (iP H)) r)(b:D.clL (args.map (iP H))=true)(k:Q r (fE (args.flatMap dK) H)):ACalls P f args H Q:=by
 refine ⟨c.1,λM0 σ w vals hR ha=>?_⟩
 obtain ⟨d,o,q,p⟩:=fH (args.flatMap dK) hR
 refine (c.2 (cX M0 (fE (args.flatMap dK) H) σ) w vals (tV d) (gC (λ_ h=>h) (BF hR ha _ λi h=>h) b)).mono λe w' ⟨v,j,g,a⟩=>?_
 obtain ⟨n,m,l⟩:=d.grow a.os a.tape a.output a.size a.block
 exact ⟨v,r,_,σ,j,n,g.keep yR,m,o.trans l,k⟩
theorem N2 {f:FuncId}{args:List D}{ty:TypeId}{sz:Nat}{es:List (List D)}{Q:D->AHeap->Prop}(S:Own P f args ty sz es)(L:D.clL args=true)
  (hQ:Q (.own H.next es.length) (H.push H.next ⟨ty,sz,es,false⟩)):ACalls P f args H Q:=by
 refine ⟨S.1,λM0 σ w vals hR ha=>(S.2 (cX M0 H σ) w vals (tV hR) (gC (λ_ h=>h) ha L)).mono λe w' ⟨v,O,he,k,N,y,A,I,C⟩=>?_⟩
 have p:w'.ownsRow 0 ty sz v es.length O:=⟨k.1,k.2.imp (λx=>x) λ⟨g,s,r,a,b,c⟩=>⟨g,s,r,a,eJ _,c⟩⟩
 have M:∀ b,v.ownBlock=some b->w.heap.size<=b:=λb j=>by
  rcases k.2 with E|⟨g,s,r,N,h2,h3⟩
  .rw [E.1] at j;simp [Value.ownBlock] at j
  .rw [N] at j;simp only [Value.ownBlock,bD] at j;omega
 have hG:∀ F,¬ (cX M0 H σ F\/v.ownBlock=some F)->¬ cX M0 (H.push H.next ⟨ty,sz,es,false⟩) (λi=>if i=H.next then some ⟨es.length,v,sz,ty⟩ else σ i) F:=by
  intro F J h
  rcases h with h|⟨i,Y,X,z,Z,m,j⟩
  .exact J (.inl (.inl h))
  .by_cases q:i=H.next
   .simp only [q,if_true,bD] at m
    subst m
    exact J (.inr j)
   .simp only [q,if_false] at m
    simp only [AHeap.push,q,if_false] at z
    exact J (.inl (.inr ⟨i,Y,X,z,Z,m,j⟩))
 have B:D.clL es.flatten=true:=CI λd hd=>by
  obtain ⟨c,K,G⟩:=i9.1 hd
  exact jK (pF A c K) d G
 obtain ⟨W,V,U⟩:=Rel.pushG hR H.next (λh=>nQ _ (hR.nxt _ h)) (w':=w') C.os C.tape C.output C.size C.block ⟨ty,sz,es,false⟩ ⟨es.length,v,sz,ty⟩
  M rfl rfl rfl I O p N (λhk=>gC hG y B)
 exact ⟨v,_,_,_,he,W,.own v _ _ (.inl rfl) (by rcases k.2 with ⟨E,_⟩|⟨g,s,r,E,_⟩<;>simp [E,Value.oneCell']) (λo ho=>by simp at ho;subst ho;exact .inr ⟨rfl,rfl⟩),V,U,hQ⟩
end
end Go.Abs
end
section
namespace Go.Abs
inductive SOut where
 | op (o:AOut)
 | call (f:FuncId) (args:List D)
 | gop (t:Bool) (g:Bool) (o:AOut)
 | gcall (t:Bool) (g:Bool) (f:FuncId) (args:List D)
 | bad
def JZ (c:Option (FuncId × List D))(o:AOut):SOut :=
 match c with
 | some (f,args)=>.call f args
 | none=>.op o
def HJ (gc:Option (Bool × Bool))(b:Bool)(g:Bool)(c:Option (FuncId × List D))(o:AOut):SOut :=
 match gc with
 | some (t,c')=>match c with
  | some (f,args)=>.gcall (t&&(c'==b)) g f args
  | none=>.gop (t&&(c'==b)) g o
 | none=>.bad
def mG (P:Program)(md:Nat->Bool)(nid:Nat)(ops:Array Oper)(e:dA)(o:Oper)(H:AHeap):SOut :=
 match o.guard with
 | none=>JZ (f7 e o) (EQ P nid md e o H)
 | some (j,b)=>HJ (gD ops e j) b (Sh e (gO o.op)) (f7 (gE e o.op) o) (EQ P nid md (gE e o.op) o H)
def g5 (P:Program)(md:Nat->Bool)(ops:Array Oper)(rest:List Oper)(e:dA)(dst:Option Tmp)(K:dA->AHeap->Prop)(f:FuncId)(args:List D)(H:AHeap):Prop :=
 ACalls P f args H λv H1=>lM P md ops rest (nZ e dst v) H1 K
def tZ (P:Program)(md:Nat->Bool)(ops:Array Oper)(rest:List Oper)(e:dA)(dst:Option Tmp)(K:dA->AHeap->Prop)(t:Bool)(f:FuncId)(args:List D)(H:AHeap):Prop :=
 (∃ r S,(t=true->∀ H',fN S H' H->ACalls P f args H' λv H1=>v=r/\H1=H')/\lM P md ops rest (nZ e dst (.opt t r)) H K) \/
  ((t=true->ACalls P f args H λv H1=>lM P md ops rest (nZ e dst (.opt true v)) H1 K)/\(t=false->∃ r,lM P md ops rest (nZ e dst (.opt false r)) H K))
def y4 (P:Program)(md:Nat->Bool)(ops:Array Oper)(rest:List Oper)(e:dA)(dst:Option Tmp)(H:AHeap)(K:dA->AHeap->Prop):SOut->Prop
 | .op o=>o.cond/\(o.fact->lM P md ops rest (nZ e dst o.val) o.heap K)
 | .call f args=>g5 P md ops rest e dst K f args H
 | .gop t g o=>(t=true->g=true)/\(t=true->o.cond/\o.heap=H)/\((t=true->o.fact)->lM P md ops rest (nZ e dst (.opt t o.val)) H K)
 | .gcall t g f args=>(t=true->g=true)/\tZ P md ops rest e dst K t f args H
 | .bad=>False
theorem Sf (P:Program)(md:Nat->Bool)(ops:Array Oper)(o:Oper)(i:List Oper)(e:dA)(H:AHeap)(K:dA->AHeap->Prop) :
  lM P md ops (o :: i) e H K=y4 P md ops i e o.dst H K (mG P md H.next ops e o H):=by
 obtain ⟨dst,op,type,pos,after,guard⟩:=o
 cases guard with
 | none =>
  simp only [lM,oJ,mG]
  cases m:f7 e { dst:=dst,op:=op,type:=type,pos:=pos,after:=after,guard:=none } with
  | none=>simp [JZ,y4]
  | some p=>simp [JZ,y4,g5]
 | some p =>
  obtain ⟨j,b⟩:=p
  simp only [lM,oJ,mG]
  cases n:gD ops e j with
  | none=>simp [HJ,y4]
  | some gc =>
   obtain ⟨t,q⟩:=gc
   cases m:f7 (gE e op) { dst:=dst,op:=op,type:=type,pos:=pos,after:=after,guard:=some (j,b) } with
   | none=>simp [HJ,y4]
   | some p=>simp [HJ,y4,tZ]
@[go_sem] theorem XI (P:Program)(md:Nat->Bool)(ops:Array Oper)(e:dA)(H:AHeap)(K:dA->AHeap->Prop):lM P md ops [] e H K=K e H:=rfl
@[go_sem] theorem YU (P:Program)(md:Nat->Bool)(ops:Array Oper)(rest:List Oper)(e:dA)(dst:Option Tmp)(H H':AHeap)(K:dA->AHeap->Prop)(c f:Prop)(v:D) :
 y4 P md ops rest e dst H K (.op ⟨c,f,v,H'⟩)=(c/\(f->lM P md ops rest (nZ e dst v) H' K)):=rfl
@[go_sem] theorem WD (P:Program)(md:Nat->Bool)(ops:Array Oper)(rest:List Oper)(e:dA)(dst:Option Tmp)(H:AHeap)(K:dA->AHeap->Prop)(f:FuncId)(args:List D) :
 y4 P md ops rest e dst H K (.call f args)=g5 P md ops rest e dst K f args H:=rfl
@[go_sem] theorem XC (P:Program)(md:Nat->Bool)(ops:Array Oper)(rest:List Oper)(e:dA)(dst:Option Tmp)(H H':AHeap)(K:dA->AHeap->Prop)(c f:Prop)(v:D)(t g:Bool) :
 y4 P md ops rest e dst H K (.gop t g ⟨c,f,v,H'⟩)=((t=true->g=true)/\(t=true->c/\H'=H)/\((t=true->f)->lM P md ops rest (nZ e dst (.opt t v)) H K)):=rfl
@[go_sem] theorem Vw (P:Program)(md:Nat->Bool)(ops:Array Oper)(rest:List Oper)(e:dA)(dst:Option Tmp)(H:AHeap)(K:dA->AHeap->Prop)(f:FuncId)(args:List D)(t g:Bool) :
 y4 P md ops rest e dst H K (.gcall t g f args)=((t=true->g=true)/\tZ P md ops rest e dst K t f args H):=rfl
@[go_sem] theorem WY (f:FuncId)(args:List D)(o:AOut):JZ (some (f,args)) o=.call f args:=rfl
@[go_sem] theorem WZ (o:AOut):JZ none o=.op o:=rfl
@[go_sem] theorem XM (e:dA)(d t:Nat)(v:D):nZ e (some d) v t=if t=d then v else e t:=rfl
@[go_sem] theorem XN (e:dA)(v:D):nZ e none v=e:=rfl
def UQ:List (Nat × D)->dA
 | []=>λ_=>.junk
 | (t,d) :: l=>λt'=>if t'=t then d else UQ l t'
@[go_sem] theorem YS (t:Nat):UQ [] t=.junk:=rfl
@[go_sem] theorem Xy (t:Nat)(d:D)(l:List (Nat × D))(t':Nat):UQ ((t,d) :: l) t'=if t'=t then d else UQ l t':=rfl
@[go_sem] theorem YR (t:Nat):Au [] t=.junk:=by simp [Au]
@[go_sem] theorem Xw (d:D)(l:List D):Au (d :: l) 0=d:=rfl
@[go_sem] theorem Xx (d:D)(l:List D)(t:Nat):Au (d :: l) (t+1)=Au l t:=by simp [Au]
@[go_sem] theorem Z3 (e:dA)(t:Nat):eH e (.tmp t)=e t:=rfl
@[go_sem] theorem YP (e:dA)(f:FuncId):eH e (.func f)=.fn f []:=rfl
@[go_sem] theorem Z6 (e:dA)(k:IntKind)(n:Int):eH e (.const (.int k n))=.int k n:=rfl
@[go_sem] theorem YQ (e:dA)(b:Bool):eH e (.const (.bool b))=.bool b:=rfl
@[go_sem] theorem Z4 (e:dA)(b:ByteArray):eH e (.const (.string b))=.str b:=rfl
@[go_sem] theorem Z5 (e:dA):eH e (.const (.slice none 0 0))=.nil:=rfl
@[go_sem] theorem YN (e:dA):eH e (.const (.pointer none))=.nilp:=rfl
@[go_sem] theorem YO (e:dA):eH e (.const .nilFunc)=.nilf:=rfl
@[go_sem] theorem Wa:i6 (.const (.slice none 0 0))=true:=rfl
@[go_sem] theorem V8 (t:Nat):i6 (.tmp t)=false:=rfl
@[go_sem] theorem Wb (k:IntKind)(n:Int):i6 (.const (.int k n))=false:=rfl
@[go_sem] theorem Vl (b:Bool):i6 (.const (.bool b))=false:=rfl
@[go_sem] theorem V9 (b:ByteArray):i6 (.const (.string b))=false:=rfl
@[go_sem] theorem Vi:i6 (.const (.pointer none))=false:=rfl
@[go_sem] theorem Vj:i6 (.const .nilFunc)=false:=rfl
@[go_sem] theorem Vk (f:FuncId):i6 (.func f)=false:=rfl
@[go_sem] theorem Yx (md:Nat->Bool)(t:Nat):EH md (some t)=md t:=rfl
@[go_sem] theorem Yy (md:Nat->Bool):EH md none=false:=rfl
section
variable (P:Program) (md:Nat→Bool) (nid:Nat) (ops:Array Oper) (e:dA) (d:Option Tmp) (ty:TypeId) (p:String) (af:Array Edge) (H:AHeap)
@[go_sem] theorem abC (x:Operand):mG P md nid ops e ⟨d,.move x,ty,p,af,none⟩ H=.op (if i6 x then DF P nid (EH md d) ty H else ⟨True,True,eH e x,H⟩):=rfl
@[go_sem] theorem XS (x:Operand):mG P md nid ops e ⟨d,.assign x,ty,p,af,none⟩ H=.op (if i6 x then DF P nid (EH md d) ty H else ⟨True,True,eH e x,H⟩):=rfl
@[go_sem] theorem abB (c a b:Operand):mG P md nid ops e ⟨d,.pick c a b,ty,p,af,none⟩ H=.op (zF (eH e c) (eH e a) (eH e b) H):=rfl
@[go_sem] theorem Zp (t:TypeId):mG P md nid ops e ⟨d,.alloc t,ty,p,af,none⟩ H=.op (wQ P nid (EH md d) t H):=rfl
@[go_sem] theorem acN (t:TypeId)(x:Operand):mG P md nid ops e ⟨d,.box t x,ty,p,af,none⟩ H=.op (K7 P nid (EH md d) t (eH e x) H):=rfl
@[go_sem] theorem Zn (t:TypeId)(ps:Array (Nat × Operand)):mG P md nid ops e ⟨d,.build t ps,ty,p,af,none⟩ H=.op (sE P t (ps.toList.map λp=>(p.1,eH e p.2)) H):=rfl
@[go_sem] theorem Z9 (md:Nat->Bool)(H:AHeap)(d:D):QD md H d=if md 1000001 then d else iP H d:=rfl
@[go_sem] theorem Z8 (md:Nat->Bool)(d:D):KO md d=if md 1000001 then [] else dK d:=rfl
@[go_sem] theorem Ug (t:TypeId)(n:Nat)(b:Array (Nat × Operand)):mG P md nid ops e ⟨d,.buildSlice t n b,ty,p,af,none⟩ H =
  .op (if md 1000001 then iH P nid (EH md d) t n (b.toList.map λp=>(p.1,eH e p.2)) H else iH P nid (EH md d) t n (b.toList.map λp=>(p.1,iP H (eH e p.2))) (fE (b.toList.flatMap λp=>dK (eH e p.2)) H)):=by
 show SOut.op (iH P nid (EH md d) t n (b.toList.map λp=>(p.1,QD md H (eH e p.2))) (fE (b.toList.flatMap λp=>KO md (eH e p.2)) H))=_
 cases h:md 1000001
 .simp [QD,KO,h]
 .simp only [QD,KO,h,if_true]
  rw [show (b.toList.flatMap λ_=>([]:List Nat))=[] by induction b.toList with|nil=>rfl|cons a l ih=>simp];rfl
@[go_sem] theorem abD (t:TypeId)(x:Operand):mG P md nid ops e ⟨d,.load t x,ty,p,af,none⟩ H=.op (mV P t (eH e x) H):=rfl
@[go_sem] theorem Zj (t:TypeId)(x y:Operand):mG P md nid ops e ⟨d,.store t x y,ty,p,af,none⟩ H =
 .op (if md 1000000 then lF P t (eH e x) (iP H (eH e y)) (fE (dK (eH e y)) H) else lF P t (eH e x) (eH e y) H):=rfl
@[go_sem] theorem VP (x:Operand):mG P md nid ops e ⟨d,.nilCheck x,ty,p,af,none⟩ H=.op (jI (eH e x) H):=rfl
@[go_sem] theorem Zo (b:BinOp)(t t':TypeId)(x y:Operand):mG P md nid ops e ⟨d,.binOp b t x y t',ty,p,af,none⟩ H=.op (q9 (md 2000000) P t b (eH e x) (eH e y) H):=rfl
@[go_sem] theorem Ze (w:Bool)(P:Program)(t:TypeId)(x y:D)(H:AHeap):q9 w P t .add x y H=Hv P t .add x y H:=by cases w<;>rfl
@[go_sem] theorem Y7 (w:Bool)(P:Program)(t:TypeId)(x y:D)(H:AHeap):q9 w P t .mul x y H=Hv P t .mul x y H:=by cases w<;>rfl
@[go_sem] theorem Y4 (w:Bool)(P:Program)(t:TypeId)(x y:D)(H:AHeap):q9 w P t .quo x y H=Hv P t .quo x y H:=by cases w<;>rfl
@[go_sem] theorem Y3 (w:Bool)(P:Program)(t:TypeId)(x y:D)(H:AHeap):q9 w P t .rem x y H=Hv P t .rem x y H:=by cases w<;>rfl
@[go_sem] theorem Zc (w:Bool)(P:Program)(t:TypeId)(x y:D)(H:AHeap):q9 w P t .eql x y H=Hv P t .eql x y H:=by cases w<;>rfl
@[go_sem] theorem Y6 (w:Bool)(P:Program)(t:TypeId)(x y:D)(H:AHeap):q9 w P t .neq x y H=Hv P t .neq x y H:=by cases w<;>rfl
@[go_sem] theorem Y8 (w:Bool)(P:Program)(t:TypeId)(x y:D)(H:AHeap):q9 w P t .lss x y H=Hv P t .lss x y H:=by cases w<;>rfl
@[go_sem] theorem Y9 (w:Bool)(P:Program)(t:TypeId)(x y:D)(H:AHeap):q9 w P t .leq x y H=Hv P t .leq x y H:=by cases w<;>rfl
@[go_sem] theorem Za (w:Bool)(P:Program)(t:TypeId)(x y:D)(H:AHeap):q9 w P t .gtr x y H=Hv P t .gtr x y H:=by cases w<;>rfl
@[go_sem] theorem Zb (w:Bool)(P:Program)(t:TypeId)(x y:D)(H:AHeap):q9 w P t .geq x y H=Hv P t .geq x y H:=by cases w<;>rfl
@[go_sem] theorem Zd (w:Bool)(P:Program)(t:TypeId)(x y:D)(H:AHeap):q9 w P t .and x y H=Hv P t .and x y H:=by cases w<;>rfl
@[go_sem] theorem Y2 (w:Bool)(P:Program)(t:TypeId)(x y:D)(H:AHeap):q9 w P t .shr x y H=Hv P t .shr x y H:=by cases w<;>rfl
@[go_sem] theorem Y5 (P:Program)(t:TypeId)(a:BinOp)(x y:D)(H:AHeap):q9 false P t a x y H=Hv P t a x y H:=by cases a<;>cases x<;>cases y<;>rfl
@[go_sem] theorem Y1 (P:Program)(t:TypeId)(k k':IntKind)(a b:Int)(H:AHeap):q9 true P t .sub (.int k a) (.int k' b) H=⟨k=k',True,.int k (k.wrap (a - b)),H⟩:=rfl
@[go_sem] theorem abA (u:UnOp)(t:TypeId)(x:Operand):mG P md nid ops e ⟨d,.unOp u t x,ty,p,af,none⟩ H=.op (TQ u (eH e x) H):=rfl
@[go_sem] theorem W1 (s t:TypeId)(x:Operand):mG P md nid ops e ⟨d,.convert s t x,ty,p,af,none⟩ H=.op (mD P s t (eH e x) H):=rfl
@[go_sem] theorem VQ (f:FuncId)(caps:Array Operand):mG P md nid ops e ⟨d,.makeFunc (.func f) #[] caps,ty,p,af,none⟩ H=.op ⟨True,True,.fn f (caps.toList.map (eH e)),H⟩:=rfl
@[go_sem] theorem U7 (t:TypeId)(l c:Operand):mG P md nid ops e ⟨d,.makeSlice t l c,ty,p,af,none⟩ H=.op (CG P nid t (eH e l) (eH e c) H):=rfl
@[go_sem] theorem Zk (t:TypeId)(x:Operand)(lo hi:Option Operand):mG P md nid ops e ⟨d,.slice t x lo hi none,ty,p,af,none⟩ H=.op (pC P t (eH e x) (lo.map (eH e)) (hi.map (eH e)) H):=rfl
@[go_sem] theorem U9 (t:TypeId)(x:Operand)(f:Nat):mG P md nid ops e ⟨d,.fieldAddr t x f,ty,p,af,none⟩ H=.op (gZ P t (eH e x) f H):=rfl
@[go_sem] theorem U8 (t:TypeId)(x i:Operand):mG P md nid ops e ⟨d,.indexAddr t x i,ty,p,af,none⟩ H=.op (gY P t (eH e x) (eH e i) H):=rfl
@[go_sem] theorem Zl (t:TypeId)(x i:Operand):mG P md nid ops e ⟨d,.index t x i,ty,p,af,none⟩ H=.op (sD P t (eH e x) (eH e i) H):=rfl
@[go_sem] theorem W0 (x:Operand)(i:Nat):mG P md nid ops e ⟨d,.extract x i,ty,p,af,none⟩ H=.op (mC (eH e x) i H):=rfl
@[go_sem] theorem W2 (b:Builtin)(args:Array Operand)(ts:Array TypeId):mG P md nid ops e ⟨d,.call ⟨.builtin b,args,ts⟩,ty,p,af,none⟩ H=.op (vI P nid b (args.toList.map (eH e)) ts.toList H):=rfl
@[go_sem] theorem abE (f:FuncId)(args:Array Operand)(ts:Array TypeId):mG P md nid ops e ⟨d,.call ⟨.value (.func f),args,ts⟩,ty,p,af,none⟩ H=.call f (args.toList.map (eH e)):=by
 simp [mG,f7,eH,JZ]
end
@[go_sem] theorem WN (P:Program)(md:Nat->Bool)(ops:Array Oper)(rest:List Oper)(e:dA)(H:AHeap)(K:dA->AHeap->Prop)(d:Option Tmp)(op:Op)(ty:TypeId)(p:String)(af:Array Edge)(g:Option (Nat × Bool)) :
 lM P md ops (⟨d,op,ty,p,af,g⟩ :: rest) e H K=y4 P md ops rest e d H K (mG P md H.next ops e ⟨d,op,ty,p,af,g⟩ H):=Sf P md ops _ rest e H K
/-! ### code -/
section
variable (P:Program) (c:Cfg) (Q:Exit→dA→AHeap→Prop) (e:dA) (H:AHeap)
def w9 (P:Program)(c:Cfg)(a b:Code)(Q:Exit->dA->AHeap->Prop)(e:dA)(H:AHeap):D->Prop
 | .bool t=>(t=true->nW P c a Q e H)/\(t=false->nW P c b Q e H)
 | _=>False
def AM (P:Program)(c:Cfg)(b:Code)(Q:Exit->dA->AHeap->Prop)(e:dA)(H:AHeap):Prop:=nW P c (.loop b) Q e H
@[go_sem] theorem aaB:nW P c .skip Q e H=Q .normal e H:=rfl
@[go_sem] theorem XK (a:Nat)(l:List Oper):nW P c (.region a l.toArray false) Q e H=lM P c.own l.toArray l e H (Q .normal):=by
 simp [nW]
@[go_sem] theorem aaE (a:Nat)(l:List Oper):nW P c (.region a l.toArray true) Q e H=kL P c.own l.toArray (c.sp a) H.next 0 l [] e ⟨H.next+l.length,H.al,H.get⟩ (Q .normal):=by
 simp [nW]
@[go_sem] theorem ab7 (a b:Code):nW P c (.seq a b) Q e H=nW P c a (sO (nW P c b Q) Q) e H:=rfl
@[go_sem] theorem aaF (x:Operand)(a b:Code):nW P c (.cond x a b) Q e H=w9 P c a b Q e H (eH e x):=rfl
@[go_sem] theorem Zg (id:Nat)(b:Code):nW P c (.block id b) Q e H=nW P c b (Bh id Q) e H:=rfl
@[go_sem] theorem aaC (b:Code):nW P c (.loop b) Q e H=AM P c b Q e H:=rfl
@[go_sem] theorem aaD (id:Nat):nW P c (.exit id) Q e H=Q (.exit id) e H:=rfl
@[go_sem] theorem ab8:nW P c .ret Q e H=Q .ret e H:=rfl
@[go_sem] theorem WF (a b:Code):w9 P c a b Q e H (.bool true)=nW P c a Q e H:=by simp [w9]
@[go_sem] theorem Vx (a b:Code):w9 P c a b Q e H (.bool false)=nW P c b Q e H:=by simp [w9]
@[go_sem] theorem Uc (n:dA->AHeap->Prop):sO n Q .normal e H=n e H:=rfl
@[go_sem] theorem WS (n:dA->AHeap->Prop):sO n Q .ret e H=Q .ret e H:=rfl
@[go_sem] theorem VL (n:dA->AHeap->Prop)(i:Nat):sO n Q (.exit i) e H=Q (.exit i) e H:=rfl
@[go_sem] theorem T5 (i:Nat):Bh i Q .normal e H=Q .normal e H:=rfl
@[go_sem] theorem WJ (i:Nat):Bh i Q .ret e H=Q .ret e H:=rfl
@[go_sem] theorem NE (i j:Nat):Bh i Q (.exit j) e H=if j=i then Q .normal e H else Q (.exit j) e H:=rfl
@[go_sem] theorem Yh (rs:List ResultVar)(R:D->AHeap->Prop):Q0 P rs R .ret e H=CE P rs e H λl=>R (Fn l) H:=rfl
@[go_sem] theorem Va (rs:List ResultVar)(R:D->AHeap->Prop):Q0 P rs R .normal e H=CE P rs e H λl=>R (Fn l) H:=rfl
@[go_sem] theorem Y0 (K:List D->Prop):CE P [] e H K=K []:=rfl
@[go_sem] theorem YZ (t:Tmp)(r:List ResultVar)(K:List D->Prop):CE P (.tmp t :: r) e H K=CE P r e H λl=>K (e t :: l):=rfl
@[go_sem] theorem XH (a:Tmp)(t:TypeId)(r:List ResultVar)(K:List D->Prop):CE P (.cell a t :: r) e H K=((mV P t (e a) H).cond/\CE P r e H λl=>K ((mV P t (e a) H).val :: l)):=rfl
@[go_sem] theorem XQ (d:D):Fn [d]=d:=rfl
end
attribute [go_sem] if_true if_false eD Bool.true_eq_false eq_self true_and and_true forall_const true_implies false_implies lO gS List.toList_toArray c6 Option.map_none
 List.flatMap_nil iC jV fR pQ eV implies_true
attribute [go_sem] Ik Hv mV lF dW gZ gY ES j7 oL CG K7 wQ sE iH pC sD mD zF uC CF jI TQ mC DF vI uD sC fE AOut.bad
 oD fP D.cells AO BK.place TZ ite_self
@[go_sem] theorem Z0 (id:Nat):AHeap.emp.get id=none:=rfl
@[go_sem] theorem Yw:AHeap.emp.next=0:=rfl
@[go_sem] theorem YJ (H:AHeap)(i j:Nat)(k:Blk):(H.push i k).get j=if j=i then some k else H.get j:=rfl
@[go_sem] theorem ZY (H:AHeap)(i j:Nat)(k:Blk):(H.put i k).get j=if j=i then some k else H.get j:=rfl
@[go_sem] theorem Xm (H:AHeap)(i:Nat)(k:Blk):(H.push i k).next=if i<H.next then H.next else i+1:=rfl
@[go_sem] theorem Yu (H:AHeap)(i:Nat)(k:Blk):(H.put i k).next=H.next:=rfl
@[go_sem] theorem YK (n:Nat)(al:Nat->Prop)(g:Nat->Option Blk)(j:Nat):(AHeap.mk n al g).get j=g j:=rfl
@[go_sem] theorem Xn (n:Nat)(al:Nat->Prop)(g:Nat->Option Blk):(AHeap.mk n al g).next=n:=rfl
section
variable (H:AHeap)
@[go_sem] theorem Ye (k:IntKind)(n:Int):eM H (.int k n)=.int k n:=rfl
@[go_sem] theorem Xg (b:Bool):eM H (.bool b)=.bool b:=rfl
@[go_sem] theorem Yb (b:ByteArray):eM H (.str b)=.str b:=rfl
@[go_sem] theorem Yd:eM H .nil=.nil:=rfl
@[go_sem] theorem Xf (es:List (List D)):eM H (.list es)=.list es:=rfl
@[go_sem] theorem Yf (es:List D):eM H (.adr es)=.adr es:=rfl
@[go_sem] theorem Xd:eM H .nilp=.nilp:=rfl
@[go_sem] theorem Xe:eM H .nilf=.nilf:=rfl
@[go_sem] theorem Zs (f:FuncId)(l:List D):eM H (.fn f l)=.fn f l:=rfl
@[go_sem] theorem Yc (id n:Nat):eM H (.own id n)=match H.get id with|some k=>if k.es.length=n then .list k.es else .own id n|none=>.own id n:=rfl
@[go_sem] theorem Ya (id n lo hi:Nat):eM H (.win id n lo hi)=match H.get id with|some k=>if k.es.length=n then .list ((k.es.take hi).drop lo) else .win id n lo hi|none=>.win id n lo hi:=rfl
@[go_sem] theorem X2 (id n lo hi:Nat):iP H (.win id n lo hi)=eM H (.win id n lo hi):=rfl
@[go_sem] theorem XU (id n lo hi:Nat):oX H (.win id n lo hi)=eM H (.win id n lo hi):=rfl
@[go_sem] theorem X7 (k:IntKind)(n:Int):iP H (.int k n)=.int k n:=rfl
@[go_sem] theorem Xc (b:Bool):iP H (.bool b)=.bool b:=rfl
@[go_sem] theorem X3 (b:ByteArray):iP H (.str b)=.str b:=rfl
@[go_sem] theorem X6:iP H .nil=.nil:=rfl
@[go_sem] theorem Xb (es:List (List D)):iP H (.list es)=.list es:=rfl
@[go_sem] theorem X9 (es:List D):iP H (.adr es)=.adr es:=rfl
@[go_sem] theorem W9:iP H .nilp=.nilp:=rfl
@[go_sem] theorem Xa:iP H .nilf=.nilf:=rfl
@[go_sem] theorem Zr (f:FuncId)(l:List D):iP H (.fn f l)=.fn f l:=rfl
@[go_sem] theorem X8 (l:List D):iP H (.agg l)=.agg (l.map (eM H)):=rfl
@[go_sem] theorem X5 (id n:Nat):iP H (.own id n)=eM H (.own id n):=rfl
@[go_sem] theorem XV (l:List D):oX H (.tup l)=.tup (l.map (iP H)):=rfl
@[go_sem] theorem XZ (k:IntKind)(n:Int):oX H (.int k n)=.int k n:=rfl
@[go_sem] theorem W8 (b:Bool):oX H (.bool b)=.bool b:=rfl
@[go_sem] theorem XW (b:ByteArray):oX H (.str b)=.str b:=rfl
@[go_sem] theorem XY:oX H .nil=.nil:=rfl
@[go_sem] theorem W7 (es:List (List D)):oX H (.list es)=.list es:=rfl
@[go_sem] theorem X1 (es:List D):oX H (.adr es)=.adr es:=rfl
@[go_sem] theorem W5:oX H .nilp=.nilp:=rfl
@[go_sem] theorem W6:oX H .nilf=.nilf:=rfl
@[go_sem] theorem Zq (f:FuncId)(l:List D):oX H (.fn f l)=.fn f l:=rfl
@[go_sem] theorem X0 (l:List D):oX H (.agg l)=.agg (l.map (eM H)):=rfl
@[go_sem] theorem XX (id n:Nat):oX H (.own id n)=eM H (.own id n):=rfl
end
@[go_sem] theorem YF (k:IntKind)(n:Int):kO (.int k n)=[]:=rfl
@[go_sem] theorem Xt (b:Bool):kO (.bool b)=[]:=rfl
@[go_sem] theorem YC (b:ByteArray):kO (.str b)=[]:=rfl
@[go_sem] theorem YE:kO .nil=[]:=rfl
@[go_sem] theorem Xs (es:List (List D)):kO (.list es)=[]:=rfl
@[go_sem] theorem YG (es:List D):kO (.adr es)=[]:=rfl
@[go_sem] theorem Xq:kO .nilp=[]:=rfl
@[go_sem] theorem Xr:kO .nilf=[]:=rfl
@[go_sem] theorem ZR (f:FuncId)(l:List D):kO (.fn f l)=[]:=rfl
@[go_sem] theorem YB (id n lo hi:Nat):kO (.win id n lo hi)=[id]:=rfl
@[go_sem] theorem VU (id n lo hi:Nat):dK (.win id n lo hi)=[id]:=rfl
@[go_sem] theorem YD (id n:Nat):kO (.own id n)=[id]:=rfl
@[go_sem] theorem VZ (k:IntKind)(n:Int):dK (.int k n)=[]:=rfl
@[go_sem] theorem Vh (b:Bool):dK (.bool b)=[]:=rfl
@[go_sem] theorem VV (b:ByteArray):dK (.str b)=[]:=rfl
@[go_sem] theorem VY:dK .nil=[]:=rfl
@[go_sem] theorem Vg (es:List (List D)):dK (.list es)=[]:=rfl
@[go_sem] theorem V2 (es:List D):dK (.adr es)=[]:=rfl
@[go_sem] theorem Ve:dK .nilp=[]:=rfl
@[go_sem] theorem Vf:dK .nilf=[]:=rfl
@[go_sem] theorem Xj (f:FuncId)(l:List D):dK (.fn f l)=[]:=rfl
@[go_sem] theorem VX (id n:Nat):dK (.own id n)=[id]:=rfl
@[go_sem] theorem V0 (l:List D):dK (.agg l)=l.flatMap kO:=rfl
@[go_sem] theorem YL (H:AHeap)(id:Nat):H.frz id=match H.get id with|some k=>H.put id { k with fz:=true } | none=>H:=rfl
@[go_sem] theorem Yi (H:AHeap)(a:Nat)(k b:Blk):(H.push a k).put a b=H.push a b:=by
 unfold AHeap.push AHeap.put
 grind
@[go_sem] theorem Zu (H:AHeap)(a:Nat)(k b:Blk):(H.put a k).put a b=H.put a b:=by
 unfold AHeap.put
 grind
section
variable {P:Program} {c:Cfg} {Q:Exit→dA→AHeap→Prop} {e:dA} {H:AHeap} {a b:Code}
theorem aP {t:Bool}(h1:t=true->nW P c a Q e H)(h2:t=false->nW P c b Q e H):w9 P c a b Q e H (.bool t):=⟨h1,h2⟩
theorem fL {p:Prop}[Decidable p](h1:p->nW P c a Q e H)(h2:¬ p->nW P c b Q e H):w9 P c a b Q e H (.bool (decide p)):=⟨λh=>h1 (of_decide_eq_true h),λh=>h2 (of_decide_eq_false h)⟩
end
attribute [irreducible] w9 g5 tZ AM
end Go.Abs
end
section
namespace Go.Abs
section
variable {P:Program} {c:Cfg} {md:Nat→Bool}
theorem Ht {t:Option Nat}{nid:Nat}{ops:Array Oper}{e:dA}{o:Oper}{H:AHeap}{K K':D->AHeap->List Nat->Prop}(d:∀ v H F,K v H F->K' v H F)(h:oJ P md t nid ops e o H K):oJ P md t nid ops e o H K':=by
 unfold oJ at h ⊢
 cases x:o.guard with
 | none =>
  simp only [x] at h ⊢
  cases k:f7 e o with
  | none=>simp only [k] at h ⊢;exact ⟨h.1,λhf=>d _ _ _ (h.2 hf)⟩
  | some p =>
   obtain ⟨f,s⟩:=p
   simp only [k] at h ⊢
   cases t with
   | none=>exact h.mono λ_ _ h=>d _ _ _ h
   | some m =>
    rcases h with ⟨r,S,y,c⟩|⟨z,r,S,u,q,A,hq,y,c⟩
    .exact .inl ⟨r,S,y,d _ _ _ c⟩
    grind
 | some p =>
  obtain ⟨j,b⟩:=p
  simp only [x] at h ⊢
  cases i:gD ops e j with
  | none=>simp only [i] at h
  | some gc =>
   obtain ⟨g,B⟩:=gc
   simp only [i] at h ⊢
   refine ⟨h.1,?_⟩
   have c:=h.2
   cases k:f7 (gE e o.op) o with
   | none=>simp only [k] at c ⊢;exact ⟨c.1,λhf=>d _ _ _ (c.2 hf)⟩
   | some p =>
    obtain ⟨f,s⟩:=p
    simp only [k] at c ⊢
    cases t with
    | some _=>obtain ⟨r,S,n,l⟩:=c;exact ⟨r,S,n,d _ _ _ l⟩
    | none =>
     rcases c with ⟨r,S,n,l⟩|⟨n,l⟩
     .exact .inl ⟨r,S,n,d _ _ _ l⟩
     .exact .inr ⟨λhq=>(n hq).mono λ_ _ h=>d _ _ _ h,λhq=>(l hq).imp λ_ h=>d _ _ _ h⟩
theorem JJ {ops:Array Oper}{K K':dA->AHeap->Prop}(hk:∀ e H,K e H->K' e H):∀ (l:List Oper) (e:dA) (H:AHeap),lM P md ops l e H K->lM P md ops l e H K'
 | [],e,H,h=>hk _ _ h
 | o :: l,e,H,h=>by
  unfold lM at h ⊢
  exact Ht (λv H' _ h=>JJ hk l _ _ h) h
theorem Hw {ops:Array Oper}{sp:List (Nat × Nat)}{n0:Nat}{K K':dA->AHeap->Prop}(hk:∀ e H,K e H->K' e H):∀ (l:List Oper) (i:Nat) (acc:List (Nat × List Nat)) (e:dA) (H:AHeap),
  kL P md ops sp n0 i l acc e H K->kL P md ops sp n0 i l acc e H K'
 | [],i,acc,e,H,h=>by unfold kL at h ⊢;exact hk _ _ h
 | o :: l,i,acc,e,H,h=>by
  unfold kL at h ⊢
  exact Ht (λv H' _ h=>⟨h.1,Hw hk l _ _ _ _ h.2⟩) h
theorem vN {n a:dA->AHeap->Prop}{Q b:Exit->dA->AHeap->Prop}(d:∀ e H,n e H->a e H)(c:∀ x e H,Q x e H->b x e H):∀ x e H,sO n Q x e H->sO a b x e H:=by
 intro x e H h
 cases x<;>first|exact d _ _ h|exact c _ _ _ h
theorem ND {i:Nat}{Q a:Exit->dA->AHeap->Prop}(b:∀ x e H,Q x e H->a x e H):∀ x e H,Bh i Q x e H->Bh i a x e H:=by
 intro x e H h
 cases x<;>first|exact b _ _ _ h|skip
 rename_i j
 rw [NE] at h ⊢
 grind
theorem p9:∀ (x:Code) {Q Q':Exit->dA->AHeap->Prop} (hq:∀ x e H,Q x e H->Q' x e H) (e:dA) (H:AHeap),nW P c x Q e H->nW P c x Q' e H
 | .skip,Q,Q',hq,e,H,h=>hq _ _ _ h
 | .region id ops dr,Q,Q',hq,e,H,h=>by
  unfold nW at h ⊢
  cases dr with
  | false=>simp only [eD,if_false] at h ⊢;exact JJ (λe H h=>hq _ _ _ h) _ _ _ h
  | true=>simp only [if_true] at h ⊢;exact Hw (λe H h=>hq _ _ _ h) _ _ _ _ _ h
 | .seq a b,Q,Q',hq,e,H,h=>by
  unfold nW at h ⊢
  exact p9 a (vN (λe H h=>p9 b hq e H h) hq) e H h
 | .cond x a b,Q,Q',hq,e,H,h=>by
  unfold nW at h ⊢
  cases hv:eH e x<;>simp only [hv] at h ⊢<;>try (exact h.elim)
  exact ⟨λht=>p9 a hq e H (h.1 ht),λht=>p9 b hq e H (h.2 ht)⟩
 | .block id b,Q,Q',hq,e,H,h=>by
  unfold nW at h ⊢
  exact p9 b (ND hq) e H h
 | .loop b,Q,Q',hq,e,H,h=>by
  unfold nW at h ⊢
  obtain ⟨I,h0,hI⟩:=h
  exact ⟨I,h0,λk e' H' hi=>p9 b (vN (λ_ _ h=>h) hq) _ _ (hI k e' H' hi)⟩
 | .exit id,Q,Q',hq,e,H,h=>hq _ _ _ h
 | .ret,Q,Q',hq,e,H,h=>hq _ _ _ h
 | .rangeFunc ..,Q,Q',hq,e,H,h=>h.elim
 | .scope ..,Q,Q',hq,e,H,h=>h.elim
 | .label ..,Q,Q',hq,e,H,h=>h.elim
 | .goto ..,Q,Q',hq,e,H,h=>h.elim
 | .refuse ..,Q,Q',hq,e,H,h=>h.elim
theorem fD {b:Code}{Q:Exit->dA->AHeap->Prop}{e:dA}{H:AHeap}{ι:Type}(I:ι->dA->AHeap->Prop)(μ:ι->Nat)(g:ι)(m:I g e H)
  (j:∀ x e H,I x e H->nW P c b (sO (λe' H'=>∃ x',μ x'<μ x/\I x' e' H') Q) e H):AM P c b Q e H:=by
 unfold AM nW
 refine ⟨λk e H=>∃ x,μ x=k/\I x e H,⟨H,.refl H,_,g,rfl,m⟩,λk e' H' ⟨x,l,i⟩=>p9 b (vN (λe'' f ⟨x',d,a⟩=>⟨f,.refl _,_,l ▸ d,x',rfl,a⟩) λ_ _ _ h=>h) _ _ (j x e' H' i)⟩
theorem B5 {b:Code}{Q:Exit->dA->AHeap->Prop}{e:dA}{H H':AHeap}(m:Ghosts H H'){ι:Type}(I:ι->dA->AHeap->Prop)(μ:ι->Nat)(g:ι)(n:I g e H')
  (j:∀ x e H,I x e H->nW P c b (sO (λe' H'=>∃ H3,Ghosts H' H3/\∃ x',μ x'<μ x/\I x' e' H3) Q) e H):AM P c b Q e H:=by
 unfold AM nW
 refine ⟨λk e H=>∃ x,μ x=k/\I x e H,⟨H',m,_,g,rfl,n⟩,λk e' H' ⟨x,l,i⟩=>p9 b (vN (λe'' H'' ⟨H3,f,x',d,a⟩=>⟨H3,f,_,l ▸ d,x',rfl,a⟩) λ_ _ _ h=>h) _ _ (j x e' H' i)⟩
theorem aB {ops:Array Oper}{a:List Oper}{e:dA}{b:Option Tmp}{K:dA->AHeap->Prop}{f:FuncId}{args:List D}{H:AHeap}{r:D}(d:Pure P f args r)(c:D.clL args=true)
 (h:lM P md ops a (nZ e b r) H K):g5 P md ops a e b K f args H:=by grind [g5, rA]
theorem iG {ops:Array Oper}{a:List Oper}{e:dA}{b:Option Tmp}{K:dA->AHeap->Prop}{f:FuncId}{args args':List D}{H:AHeap}{r:D}(d:Pure P f args' r)(i:args.map (iP H)=args')(c:D.clL args'=true)(g:r.flat=true)
 (h:lM P md ops a (nZ e b r) H K):g5 P md ops a e b K f args H:=by grind [g5, wS]
theorem Ep {ops:Array Oper}{a:List Oper}{e:dA}{b:Option Tmp}{K:dA->AHeap->Prop}{f:FuncId}{args args':List D}{H H':AHeap}{r:D}(g:Pure P f args' r)(i:args.map (iP H)=args')(c:D.clL args'=true)
 (d:fE (args.flatMap dK) H=H') (h:lM P md ops a (nZ e b r) H' K):g5 P md ops a e b K f args H:=by grind [g5, Lc]
theorem kY {ops:Array Oper}{a:List Oper}{e:dA}{b:Option Tmp}{K:dA->AHeap->Prop}{f:FuncId}{args:List D}{H:AHeap}{ty:TypeId}{sz:Nat}{es:List (List D)}(d:Own P f args ty sz es)(c:D.clL args=true)
 (h:lM P md ops a (nZ e b (.own H.next es.length)) (H.push H.next ⟨ty,sz,es,false⟩) K):g5 P md ops a e b K f args H:=by grind [g5, N2]
end
end Go.Abs
end

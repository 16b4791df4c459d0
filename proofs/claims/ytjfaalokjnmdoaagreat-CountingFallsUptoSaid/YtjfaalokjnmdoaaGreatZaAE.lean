/- The abstraction layer, part S: whole bodies, functions, cont -/
import Derived.Test.YtjfaalokjnmdoaaGreatZaAD
set_option linter.unusedVariables false
set_option linter.unusedSimpArgs false
section
namespace Go.Abs
abbrev cY:=Nat→D
structure Cfg where
 own:Nat→Bool
 sp:Nat→List (Nat × Nat)
def FP (H:AHeap)(id i off:Nat)(ty sz:Nat):AHeap :=
 match H.get id with
 | some k=>(H.put id { k with es:=k.es.set i ((k.es[i]?.getD []).set off (.own H.next 0)) }).push H.next ⟨ty,sz,[],false⟩
 | none=>H
def AHeap.drop (H:AHeap)(id:Nat):AHeap:=⟨H.next,H.al,fun i=>if i=id then none else H.get i⟩
def Ah (H:AHeap)(id i off q hi:Nat):AHeap :=
 match H.get id,H.get q with
 | some k,some kq=>(((H.drop q).push H.next ⟨kq.ty,kq.sz,kq.es.take hi,false⟩).put id { k with es:=k.es.set i ((k.es[i]?.getD []).set off (.own H.next hi)) })
 | _,_=>H
inductive Ghosts:AHeap→AHeap→Prop
 | refl (H:AHeap):Ghosts H H
 | trunc {H H1:AHeap} (h:Ghosts H H1) (id i off q hi:Nat) (k kq:Blk) (c:List D) (hk:H1.get id=some k) (hf:k.fz=false) (hc:k.es[i]?=some c) (hq:H1.get q=some kq) (hn:c[off]?=some (.win q kq.es.length 0 hi)) (hqf:kq.fz=false) (hne:id≠q):Ghosts H (Ah H1 id i off q hi)
 | step {H H1:AHeap} (h:Ghosts H H1) (id i off ty sz:Nat) (k:Blk) (c:List D) (hk:H1.get id=some k) (hf:k.fz=false) (hc:k.es[i]?=some c) (hn:c[off]?=some .nil):Ghosts H (FP H1 id i off ty sz)
def pC (next:cY→AHeap→Prop)(Q:Exit→cY→AHeap→Prop):Exit→cY→AHeap→Prop
 | .normal,e,H=>next e H
 | ex,e,H=>Q ex e H
def Aq (id:Nat)(Q:Exit→cY→AHeap→Prop):Exit→cY→AHeap→Prop
 | .exit id',e,H=>if id'=id then Q .normal e H else Q (.exit id') e H
 | ex,e,H=>Q ex e H
def lT (P:Program)(c:Cfg):Code→(Exit→cY→AHeap→Prop)→cY→AHeap→Prop
 | .skip,Q,e,H=>Q .normal e H
 | .region id ops dr,Q,e,H =>
  if dr then iS P c.own ops (c.sp id) H.next 0 ops.toList [] e { H with next:=H.next+ops.size } (Q .normal)
  else lR P c.own ops ops.toList e H (Q .normal)
 | .seq a b,Q,e,H=>lT P c a (pC (lT P c b Q) Q) e H
 | .cond x a b,Q,e,H=>match eX e x with
  | .bool t=>(t=true→lT P c a Q e H)∧(t=false→lT P c b Q e H)
  | _=>False
 | .block id b,Q,e,H=>lT P c b (Aq id Q) e H
 | .loop b,Q,e,H=>∃ I:Nat→cY→AHeap→Prop,(∃ H',Ghosts H H'∧∃ k,I k e H')∧∀ k e' H',I k e' H'→lT P c b (pC (fun e'' H''=>∃ H3,Ghosts H'' H3∧∃ k',k'<k∧I k' e'' H3) Q) e' H'
 | .exit id,Q,e,H=>Q (.exit id) e H
 | .ret,Q,e,H=>Q .ret e H
 | _,_,_,_=>False
def m7 (c:Cfg)(n:Nat):Code→Bool
 | .region id ops dr=>(ops.toList.all fun o=>zK n o.dst)&&(!dr||uM c.own ops (c.sp id))
 | .seq a b=>m7 c n a&&m7 c n b
 | .cond _ a b=>m7 c n a&&m7 c n b
 | .block _ b=>m7 c n b
 | .loop b=>m7 c n b
 | _=>true
section
variable {P:Program} {c:Cfg} {n:Nat} {M0:Nat→Prop}
theorem jC {x:Code}{Q Q':Exit→Act→World→Prop}{a:Act}{w:World}(h:x.wp P Q a w)(hq:∀ e a w,Q e a w→Q' e a w):x.wp P Q' a w:=wp_mono h hq
theorem lB {p:Nat→Prop}(h:∃ k,p k):∃ k,p k∧∀ j,j<k→¬ p j:=by
 obtain ⟨k,hk⟩:=h
 induction k using Nat.strongRecOn with
 | _ k ih =>
  by_cases hj:∃ j,j<k∧p j
  ·obtain ⟨j,hlt,hp⟩:=hj
   exact ih j hlt hp
  ·exact ⟨k,hk,fun j hlt hp=>hj ⟨j,hlt,hp⟩⟩
def M5 (n:Nat)(M0:Nat→Prop)(H0:AHeap)(σ0:Nat→Option Ow)(w0:World)(Q:Exit→cY→AHeap→Prop)(ex:Exit)(a:Act)(w:World):Prop:=Came n M0 H0 σ0 w0 (Q ex) a w
theorem u5 {sz:Nat}(d:D)(off:Nat)(c:List D):∀ (es:List (List D)) (i:Nat),(∀ c∈es,c.length=sz)→es[i]?=some c→off<sz→(es.set i (c.set off d)).flatten=es.flatten.set (i * sz+off) d
 | [],i,_,h,_=>by simp at h
 | a :: es,0,hl,h,ho=>by
  simp at h;subst h
  have:=hl a (by simp)
  simp only [List.set_cons_zero,dR,Nat.zero_mul,e8]
  rw [List.set_append_left _ _ (by omega)]
 | a :: es,i+1,hl,h,ho=>by
  have ha:=hl a (by simp)
  simp at h
  have ih:=u5 d off c es i (fun c hc=>hl c (by simp [hc])) h ho
  simp only [tC,dR,ih]
  rw [oE _ _ (by rw [Nat.add_mul];omega)]
  congr 2
  rw [ha,Nat.add_mul];omega
theorem Mf {H:AHeap}{σ:Nat→Option Ow}{w:World}(hR:Rel M0 H σ w){id i off ty sz:Nat}{k:Blk}{c0:List D}(hk:H.get id=some k)(hf:k.fz=false)(hc:k.es[i]?=some c0)(hn:c0[off]?=some .nil) :
  ∃ σ',Rel M0 (FP H id i off ty sz) σ' w∧Stp σ w σ' w∧Keeps (c7 M0 H σ) σ H.al w (c7 M0 (FP H id i off ty sz) σ') σ' (FP H id i off ty sz).al w:=by
 have hal:¬ H.al H.next:=fun h=>mD _ (hR.nxt _ h)
 have hid:H.al id:=bP fun hn=>by rw [(hR.top id hn).2] at hk;cases hk
 have hne:id≠H.next:=fun h=>hal (h ▸ hid)
 obtain ⟨p1,p2,p3⟩:=Rel.push hR H.next hal (w':=w) rfl rfl rfl (bQ _) (fun _ _=>rfl) ⟨ty,sz,[],false⟩ ⟨0,.slice none 0 0,sz,ty⟩ (fun b hb=>by simp [Ow.block,Value.ownBlock] at hb) rfl rfl rfl (fun c hc=>by simp at hc) []
  ⟨by simp,.inl ⟨rfl,rfl⟩⟩ (by simp) ⟨rfl,fun j u d hu=>by simp at hu⟩
 obtain ⟨o,ho,l⟩:=hR.lies id k hk
 obtain ⟨xs,hrow,hx1,hrep⟩:=l.row
 have hk1:(H.push H.next ⟨ty,sz,[],false⟩).get id=some k:=by simp [AHeap.push,hne,hk]
 have ho1:(fun i=>if i=H.next then some (⟨0,.slice none 0 0,sz,ty⟩:Ow) else σ i) id=some o:=by simp [hne,ho]
 have hlen0:=l.esz c0 (aK hc)
 have hoff:off<o.esz:=by rw [← hlen0];exact (aO.1 hn).1
 have hesz':∀ c∈k.es.set i (c0.set off (.own H.next 0)),c.length=o.esz:=fun c hc'=>by
  rcases fG hc' with h|h
  ·exact l.esz c h
  ·subst h;simp [hlen0]
 have hfl:=u5 (D.own H.next 0) off c0 k.es i l.esz hc hoff
 obtain ⟨q1,q2,q3⟩:=Rel.put p1 hk1 hf ho1 { k with es:=k.es.set i (c0.set off (.own H.next 0)) } o ⟨rfl,rfl,rfl,bQ _,fun _ _ _=>rfl⟩ (fun b hb=>.inl hb) (.inl rfl) (by simp [l.ver]) l.ty l.sz hesz' xs (by simpa using hrow) hx1 (by
   have hrep':=hrep.keep p3
   simp only
   rw [hfl]
   refine ⟨by simpa using hrep'.len,fun j u d hu hd=>?_⟩
   rw [c6] at hd
   split at hd
   ·rename_i hj
    split at hd
    ·cases hd
     have hold:k.es.flatten[j]?=some .nil:=by
      rw [← hj,kT k.es i c0 l.esz hc off hoff];exact hn
     have hv:=hrep'.rep j u _ hu hold
     cases hv
     exact .own _ _ _ (.inl rfl) rfl fun o' ho'=>by simp at ho';subst ho';exact .inr ⟨rfl,rfl⟩
    ·cases hd
   ·exact hrep'.rep j u d hu hd)
 have hg:FP H id i off ty sz=(H.push H.next ⟨ty,sz,[],false⟩).put id { k with es:=k.es.set i (c0.set off (.own H.next 0)) }:=by
  simp only [FP,hk,hc,aD]
  unfold AHeap.push AHeap.put
  congr 1
  funext j
  by_cases h1:j=H.next
  ·simp [h1,Ne.symm hne]
  ·simp [h1]
 rw [hg]
 exact ⟨_,q1,p2.trans q2,p3.trans q3⟩
theorem BN {sz:Nat}:∀ (es:List (List D)) (n:Nat),(∀ c∈es,c.length=sz)→(es.take n).flatten=es.flatten.take (n * sz)
 | [],n,_=>by simp
 | a :: es,0,_=>by simp
 | a :: es,n+1,h=>by
  have ha:=h a (by simp)
  rw [rG,dR,dR,BN es n fun c hc=>h c (by simp [hc]),Nat.add_mul,Nat.one_mul,Nat.add_comm,← ha,List.take_length_add_append]
theorem PV {H:AHeap}{σ:Nat→Option Ow}{w:World}(hR:Rel M0 H σ w){q hi n:Nat}{kq:Blk}{oq:Ow}(hq:H.get q=some kq)(hqf:kq.fz=false)(hoq:σ q=some oq)(hn:¬ H.al n){v:Value}(hh:hi≤kq.es.length)(hv:SL oq v kq.es.length 0 hi) :
  let σ':Nat→Option Ow:=fun i=>if i=n then some ⟨hi,v,oq.esz,oq.ty⟩ else if i=q then none else σ i
  Rel M0 ((H.drop q).push n ⟨kq.ty,kq.sz,kq.es.take hi,false⟩) σ' w∧Stp σ w σ' w∧Keeps (c7 M0 H σ) σ H.al w (c7 M0 ((H.drop q).push n ⟨kq.ty,kq.sz,kq.es.take hi,false⟩) σ') σ' ((H.drop q).push n ⟨kq.ty,kq.sz,kq.es.take hi,false⟩).al w:=by
 intro σ'
 have hqal:H.al q:=bP fun h=>by rw [(hR.top q h).1] at hoq;cases hoq
 have hqn:q≠n:=fun e=>hn (e ▸ hqal)
 have hblk:∀ b,v.ownBlock=some b→oq.block=some b:=fun b hb=>by
  rcases hv with ⟨_,rfl,_⟩|⟨b',cap,h1,h2,rfl⟩
  ·simp [Value.ownBlock] at hb
  ·simp only [Value.ownBlock] at hb
   simp only [Ow.block,h1,Value.ownBlock]
   rw [← hb];split<;>rfl
 have hmut:∀ b,c7 M0 ((H.drop q).push n ⟨kq.ty,kq.sz,kq.es.take hi,false⟩) σ' b→c7 M0 H σ b:=by
  rintro b (hm|⟨i,k',o',hk',hf,ho',hb'⟩)
  ·exact .inl hm
  ·by_cases h1:i=n
   ·simp only [σ',h1,if_true,bH] at ho'
    subst ho'
    exact .inr ⟨q,kq,oq,hq,hqf,hoq,hblk b hb'⟩
   ·by_cases h2:i=q
    ·simp only [σ',h1,h2,if_false,if_true,hqn] at ho';cases ho'
    ·simp only [σ',h1,h2,if_false] at ho'
     simp only [AHeap.push,AHeap.drop,h1,h2,if_false] at hk'
     exact .inr ⟨i,k',o',hk',hf,ho',hb'⟩
 have hkeep:Keeps (c7 M0 H σ) σ H.al w (c7 M0 ((H.drop q).push n ⟨kq.ty,kq.sz,kq.es.take hi,false⟩) σ') σ' ((H.drop q).push n ⟨kq.ty,kq.sz,kq.es.take hi,false⟩).al w:=by
  refine ⟨fun ad u hm hu=>⟨fun h=>hm (hmut _ h),hu⟩,fun i o' hi' ho'=>?_,fun i hi'=>.inr hi'⟩
  have h1:i≠n:=fun e=>hn (e ▸ hi')
  by_cases h2:i=q
  ·simp only [σ',h2,if_true,hqn,if_false] at ho';cases ho'
  ·simp only [σ',h1,h2,if_false] at ho'
   exact ⟨o',ho',.inl rfl⟩
 have hold:∀ {i o'},i≠n→σ' i=some o'→i≠q∧σ i=some o':=fun {i o'} h1 ho'=>by
  by_cases h2:i=q
  ·simp only [σ',h2,if_true,hqn,if_false] at ho';cases ho'
  ·simp only [σ',h1,h2,if_false] at ho';exact ⟨h2,ho'⟩
 obtain ⟨o2,ho2,l⟩:=hR.lies q kq hq
 rw [hoq] at ho2;cases ho2
 obtain ⟨xs,hrow,hx1,hrep⟩:=l.row
 refine ⟨⟨fun i hi'=>?_,fun i hi'=>?_,fun i k' hk'=>?_,fun i j oi oj b hi' hj' hbi hbj=>?_,fun i oi b hi' hbi=>?_,hR.m0⟩,⟨rfl,rfl,rfl,bQ _,fun _ _ _=>rfl,fun i o' b ho' hb'=>?_⟩,hkeep⟩
 ·have hi2:¬ (i=n∨H.al i):=hi'
  have h1:i≠n:=fun e=>hi2 (.inl e)
  have h2:i≠q:=fun e=>hi2 (.inr (e ▸ hqal))
  simp only [σ',AHeap.push,AHeap.drop,h1,h2,if_false]
  exact hR.top i fun e=>hi2 (.inr e)
 ·have hi2:i=n∨H.al i:=hi'
  have he:((H.drop q).push n ⟨kq.ty,kq.sz,kq.es.take hi,false⟩).next=if n<H.next then H.next else n+1:=rfl
  rw [he]
  rcases hi2 with rfl|hi2
  ·by_cases h:i<H.next
   ·rw [if_pos h];exact h
   ·rw [if_neg h];omega
  ·have:=hR.nxt i hi2
   by_cases h:n<H.next
   ·rw [if_pos h];exact this
   ·rw [if_neg h];omega
 ·by_cases h1:i=n
  ·simp only [AHeap.push,h1,if_true,bH] at hk'
   subst hk'
   refine ⟨⟨hi,v,oq.esz,oq.ty⟩,by simp [σ',h1],by simp;omega,l.ty,l.sz,fun c hc=>l.esz c (cE hc),xs.take (hi * oq.esz),⟨?_,?_⟩,fun u hu=>hx1 u (cE hu),?_⟩
   ·have:=hrow.1
    have h2:hi * oq.esz≤kq.es.length * oq.esz:=eT _ hh
    simp only [aV]
    rw [As hh,As (by omega)]
   ·have hm:(kq.es.take hi).length=hi:=by simp;omega
    simp only [hm]
    rcases hv with ⟨h1,h2,h3⟩|⟨b',cap,h1,h2,h3⟩
    ·exact .inl ⟨h2,h3⟩
    ·rcases hrow.2 with ⟨hn0,_⟩|⟨g,cap',cur,e1,e2,e3,e4,e5,e6,e7⟩
     ·rw [h1] at hn0;cases hn0
     ·rw [h1] at e1;cases e1
      refine .inr ⟨b',cap,cur,?_,dY _,e3,by omega,e5,e6,?_⟩
      ·rw [h3];simp
      ·rw [← e7,List.take_take,As (eT _ hh)]
   ·have hr:=hrep.keep hkeep
    refine ⟨?_,fun j u d hu hd=>?_⟩
    ·simp only
     rw [BN kq.es hi l.esz]
     simp [hr.len]
    ·simp only at hd
     rw [BN kq.es hi l.esz,bF] at hd
     rw [bF] at hu
     split at hd
     ·rename_i hj;rw [if_pos hj] at hu;exact hr.rep j u d hu hd
     ·cases hd
  ·by_cases h2:i=q
   ·simp only [AHeap.push,AHeap.drop,h1,h2,if_false,if_true,hqn] at hk';cases hk'
   ·simp only [AHeap.push,AHeap.drop,h1,h2,if_false] at hk'
    obtain ⟨o',ho',l'⟩:=hR.lies i k' hk'
    obtain ⟨xs',a1,a2,a3⟩:=l'.row
    exact ⟨o',by simp [σ',h1,h2,ho'],l'.ver,l'.ty,l'.sz,l'.esz,xs',a1,a2,a3.keep hkeep⟩
 ·by_cases h1:i=n<;>by_cases h2:j=n
  ·rw [h1,h2]
  ·simp only [σ',h1,if_true,bH] at hi'
   subst hi'
   obtain ⟨h3,h4⟩:=hold h2 hj'
   exact absurd (hR.inj j q oj oq b h4 hoq hbj (hblk b hbi)) h3
  ·simp only [σ',h2,if_true,bH] at hj'
   subst hj'
   obtain ⟨h3,h4⟩:=hold h1 hi'
   exact absurd (hR.inj i q oi oq b h4 hoq hbi (hblk b hbj)) h3
  ·exact hR.inj i j oi oj b (hold h1 hi').2 (hold h2 hj').2 hbi hbj
 ·by_cases h1:i=n
  ·simp only [σ',h1,if_true,bH] at hi'
   subst hi'
   exact hR.lt q oq b hoq (hblk b hbi)
  ·exact hR.lt i oi b (hold h1 hi').2 hbi
 ·by_cases h1:i=n
  ·simp only [σ',h1,if_true,bH] at ho'
   subst ho'
   exact .inr ⟨q,oq,hoq,hblk b hb'⟩
  ·exact .inr ⟨i,o',(hold h1 ho').2,hb'⟩
theorem J4 {H:AHeap}{σ:Nat→Option Ow}{w:World}(hR:Rel M0 H σ w){id i off q hi:Nat}{k kq:Blk}{c0:List D}(hk:H.get id=some k)(hf:k.fz=false)(hc:k.es[i]?=some c0)(hq:H.get q=some kq)
  (hn:c0[off]?=some (.win q kq.es.length 0 hi)) (hqf:kq.fz=false) (hne:id≠q) :
  ∃ σ',Rel M0 (Ah H id i off q hi) σ' w∧Stp σ w σ' w∧Keeps (c7 M0 H σ) σ H.al w (c7 M0 (Ah H id i off q hi) σ') σ' (Ah H id i off q hi).al w:=by
 have hal:¬ H.al H.next:=fun h=>mD _ (hR.nxt _ h)
 have hid:H.al id:=bP fun hn=>by rw [(hR.top id hn).2] at hk;cases hk
 have hidn:id≠H.next:=fun h=>hal (h ▸ hid)
 obtain ⟨oq,hoq,lq⟩:=hR.lies q kq hq
 obtain ⟨o,ho,l⟩:=hR.lies id k hk
 obtain ⟨xs,hrow,hx1,hrep⟩:=l.row
 have hlen0:=l.esz c0 (aK hc)
 have hoff:off<o.esz:=by rw [← hlen0];exact (aO.1 hn).1
 have hold:k.es.flatten[i * o.esz+off]?=some (.win q kq.es.length 0 hi):=by rw [kT k.es i c0 l.esz hc off hoff];exact hn
 have hlt:i * o.esz+off<xs.length:=by rw [hrep.len];exact (aO.1 hold).1
 obtain ⟨v,hv⟩:∃ v,xs[i * o.esz+off]?=some v:=⟨_,aA hlt⟩
 have hrv:=hrep.rep _ v _ hv hold
 have hone:v.oneCell'=true:=hx1 v (aK hv)
 obtain ⟨hh,hw⟩:hi≤kq.es.length∧SL oq v kq.es.length 0 hi:=by
  cases hrv
  rename_i _ _ hlh h
  refine ⟨hlh.2,?_⟩
  rcases h oq hoq with h'|⟨_,h'⟩
  ·have:=lq.ver;omega
  ·exact h'
 obtain ⟨p1,p2,p3⟩:=PV hR hq hqf hoq hal hh hw
 have hk1:((H.drop q).push H.next ⟨kq.ty,kq.sz,kq.es.take hi,false⟩).get id=some k:=by simp [AHeap.push,AHeap.drop,hidn,hne,hk]
 have ho1:(fun i=>if i=H.next then some (⟨hi,v,oq.esz,oq.ty⟩:Ow) else if i=q then none else σ i) id=some o:=by simp [hidn,hne,ho]
 have hesz':∀ c∈k.es.set i (c0.set off (.own H.next hi)),c.length=o.esz:=fun c hc'=>by
  rcases fG hc' with h|h
  ·exact l.esz c h
  ·subst h;simp [hlen0]
 have hfl:=u5 (D.own H.next hi) off c0 k.es i l.esz hc hoff
 obtain ⟨q1,q2,q3⟩:=Rel.put p1 hk1 hf ho1 { k with es:=k.es.set i (c0.set off (.own H.next hi)) } o ⟨rfl,rfl,rfl,bQ _,fun _ _ _=>rfl⟩ (fun b hb=>.inl hb) (.inl rfl) (by simp [l.ver]) l.ty l.sz hesz' xs (by simpa using hrow) hx1 (by
   have hrep':=hrep.keep p3
   simp only
   rw [hfl]
   refine ⟨by simpa using hrep'.len,fun j u d hu hd=>?_⟩
   rw [c6] at hd
   split at hd
   ·rename_i hj
    split at hd
    ·cases hd
     rw [← hj,hv] at hu
     cases hu
     exact .own _ _ _ (.inl rfl) hone fun o' ho'=>by simp at ho';subst ho';exact .inr ⟨rfl,rfl⟩
    ·cases hd
   ·exact hrep'.rep j u d hu hd)
 have hg:Ah H id i off q hi=((H.drop q).push H.next ⟨kq.ty,kq.sz,kq.es.take hi,false⟩).put id { k with es:=k.es.set i (c0.set off (.own H.next hi)) }:=by
  simp only [Ah,hk,hq,hc,aD]
 rw [hg]
 exact ⟨_,q1,p2.trans q2,p3.trans q3⟩
theorem u3 {H H':AHeap}(hg:Ghosts H H'){σ:Nat→Option Ow}{w:World}(hR:Rel M0 H σ w):∃ σ',Rel M0 H' σ' w∧Stp σ w σ' w∧Keeps (c7 M0 H σ) σ H.al w (c7 M0 H' σ') σ' H'.al w:=by
 induction hg with
 | refl=>exact ⟨σ,hR,.refl _ _,.refl _ _ _ _⟩
 | trunc h id i off q hi k kq c hk hf hc hq hn hqf hne ih =>
  obtain ⟨σ1,h1,h2,h3⟩:=ih
  obtain ⟨σ2,h4,h5,h6⟩:=J4 h1 hk hf hc hq hn hqf hne
  exact ⟨σ2,h4,h2.trans h5,h3.trans h6⟩
 | step h id i off ty sz k c hk hf hc hn ih =>
  obtain ⟨σ1,h1,h2,h3⟩:=ih
  obtain ⟨σ2,h4,h5,h6⟩:=Mf (ty:=ty) (sz:=sz) h1 hk hf hc hn
  exact ⟨σ2,h4,h2.trans h5,h3.trans h6⟩
theorem St.keeps {H H':AHeap}{σ σ':Nat→Option Ow}{w:World}{e:cY}{a:Act}(hS:St n M0 H σ w e a)(hR:Rel M0 H' σ' w)(hk:Keeps (c7 M0 H σ) σ H.al w (c7 M0 H' σ') σ' H'.al w):St n M0 H' σ' w e a :=
 ⟨hR,fun t=>(hS.env t).keep hk,hS.defers,hS.size⟩
theorem mC (hm : P.follows .mixedOrders = true) : ∀ (x : Code) (Q : Exit → cY → AHeap → Prop) (e : cY) (H : AHeap), lT P c x Q e H → m7 c n x = true →
    ∀ (σ : Nat → Option Ow) (w : World) (a : Act), St n M0 H σ w e a → x.wp P (M5 n M0 H σ w Q) a w
  | .skip, Q, e, H, h, _, σ, w, a, hS => wp_skip ⟨e, H, σ, h, hS, .refl _ _, .refl _ _ _ _⟩
  | .region id ops dr, Q, e, H, h, hok, σ, w, a, hS => by
    simp only [m7, aL, cQ, bT, cV] at hok
    unfold lT at h
    cases dr with
    | false =>
      simp only [eM, if_false] at h
      exact wp_region_list (Gz ops.toList e H _ h hok.1 σ w a hS fun a' w' hc => hc)
    | true =>
      simp only [if_true] at h
      exact Ov hm (hok.2.resolve_left (by simp)) hok.1 h hS fun a' w' hc => hc
  | .seq x y, Q, e, H, h, hok, σ, w, a, hS => by
    simp only [m7, aL] at hok
    unfold lT at h
    refine wp_seq (jC (mC hm x _ e H h hok.1 σ w a hS) fun ex a' w' hc => ?_)
    cases ex <;> first | exact hc | skip
    obtain ⟨e', H', σ', hq, hS', hst, hk⟩ := hc
    exact jC (mC hm y Q e' H' hq hok.2 σ' w' a' hS') fun ex a'' w'' hc' => Came.trans hst hk hc'
  | .cond x y z, Q, e, H, h, hok, σ, w, a, hS => by
    simp only [m7, aL] at hok
    unfold lT at h
    have hx := hS.envR.ev x
    cases hv : eX e x <;> simp only [hv] at h <;> try (exact h.elim)
    rename_i t
    rw [hv] at hx
    have hc : a.eval x = .bool t := by generalize a.eval x = v at hx; cases hx; rfl
    exact wp_cond_split hc (fun ht => mC hm y Q e H (h.1 ht) hok.1 σ w a hS) fun ht => mC hm z Q e H (h.2 ht) hok.2 σ w a hS
  | .block id b, Q, e, H, h, hok, σ, w, a, hS => by
    unfold lT at h
    refine wp_block (jC (mC hm b _ e H h hok σ w a hS) fun ex a' w' hc => ?_)
    cases ex <;> first | exact hc | skip
    rename_i id'
    by_cases hid : id' = id
    · subst hid
      show (if id' = id' then M5 n M0 H σ w Q .normal a' w' else _)
      rw [if_pos rfl]
      exact Came.mono hc fun e' H' h => by
        have h' : (if id' = id' then Q .normal e' H' else Q (.exit id') e' H') := h
        rw [if_pos rfl] at h'; exact h'
    · show (if id' = id then M5 n M0 H σ w Q .normal a' w' else M5 n M0 H σ w Q (.exit id') a' w')
      rw [if_neg hid]
      exact Came.mono hc fun e' H' h => by
        have h' : (if id' = id then Q .normal e' H' else Q (.exit id') e' H') := h
        rw [if_neg hid] at h'; exact h'
  | .loop b, Q, e, H, h, hok, σ, w, a, hS => by
    unfold lT at h
    obtain ⟨I, ⟨H1, hgh, k0, h0⟩, hI⟩ := h
    obtain ⟨σ1, g1, g2, g3⟩ := u3 hgh hS.rel
    have hS1 := hS.keeps g1 g3
    let J : Nat → Act → World → Prop := fun k a' w' => Came n M0 H σ w (I k) a' w'
    have hJ0 : J k0 a w := ⟨e, H1, σ1, h0, hS1, g2, g3⟩
    classical
    let μ : Act → World → Nat := fun a' w' => if hx : ∃ k, J k a' w' then Classical.choose (lB hx) else 0
    refine wp_loop (fun a' w' => ∃ k, J k a' w') μ ⟨k0, hJ0⟩ fun a' w' hx => ?_
    have hμ : μ a' w' = Classical.choose (lB hx) := by simp only [μ, dif_pos hx]
    obtain ⟨e', H', σ', hi, hS', hst, hk⟩ := (Classical.choose_spec (lB hx)).1
    refine jC (mC hm b _ e' H' (hI _ e' H' hi) hok σ' w' a' hS') fun ex a'' w'' hc => ?_
    have hc' := Came.trans hst hk hc
    cases ex <;> first | exact hc' | skip
    obtain ⟨e2, H20, σ20, ⟨H2, hgh2, k', hlt, hk'⟩, hS2, hst2, hk2⟩ := hc'
    obtain ⟨σ2, j1, j2, j3⟩ := u3 hgh2 hS2.rel
    have rest := And.intro (hS2.keeps j1 j3) (And.intro (hst2.trans j2) (hk2.trans j3))
    have hx2 : ∃ k, J k a'' w'' := ⟨k', e2, H2, σ2, hk', rest⟩
    refine ⟨hx2, ?_⟩
    have : μ a'' w'' = Classical.choose (lB hx2) := by simp only [μ, dif_pos hx2]
    rw [this, hμ]
    refine Nat.lt_of_le_of_lt ?_ hlt
    rcases b8 k' (Classical.choose (lB hx2)) with hlt' | hge
    · exact absurd ⟨e2, H2, σ2, hk', rest⟩ ((Classical.choose_spec (lB hx2)).2 k' hlt')
    · exact hge
  | .exit id, Q, e, H, h, _, σ, w, a, hS => wp_exit ⟨e, H, σ, h, hS, .refl _ _, .refl _ _ _ _⟩
  | .ret, Q, e, H, h, _, σ, w, a, hS => wp_ret ⟨e, H, σ, h, hS, .refl _ _, .refl _ _ _ _⟩
  | .rangeFunc .., Q, e, H, h, _, _, _, _, _ => h.elim
  | .scope .., Q, e, H, h, _, _, _, _, _ => h.elim
  | .label .., Q, e, H, h, _, _, _, _, _ => h.elim
  | .goto .., Q, e, H, h, _, _, _, _, _ => h.elim
  | .refuse .., Q, e, H, h, _, _, _, _, _ => h.elim
end
end Go.Abs
end
section
namespace Go.Abs
def BE (P:Program):List ResultVar→cY→AHeap→(List D→Prop)→Prop
 | [],_,_,K=>K []
 | .tmp t :: r,e,H,K=>BE P r e H fun l=>K (e t :: l)
 | .cell a ty :: r,e,H,K=>(lS P ty (e a) H).cond∧BE P r e H fun l=>K ((lS P ty (e a) H).val :: l)
def Em:List D→D
 | [d]=>d
 | l=>.tup l
def P5 (P:Program)(rs:List ResultVar)(Q:D→AHeap→Prop):Exit→cY→AHeap→Prop
 | .normal,e,H=>BE P rs e H fun l=>Q (Em l) H
 | .ret,e,H=>BE P rs e H fun l=>Q (Em l) H
 | _,_,_=>False
def yX (args:List D):cY:=fun t=>args.getD t .junk
def BX (tmps:Array Value):ResultVar→Sem Value
 | .tmp t=>Pure.pure (tmps.getD t undef)
 | .cell x t=>do loadVar t (← asAddr (tmps.getD x undef))
section
variable {P:Program} {M0:Nat→Prop} {H:AHeap} {σ:Nat→Option Ow} {w:World} {n:Nat} {e:cY} {a:Act}
theorem vE (hS : St n M0 H σ w e a) : ∀ (rs : List ResultVar) (K : List D → Prop), BE P rs e H K →
    ∃ vs l, Sem.run P (rs.mapM (BX a.tmps)) w = Result.ok vs w ∧ RepL (c7 M0 H σ) σ H.al w vs l ∧ K l
  | [], K, h => ⟨[], [], by simp, ⟨rfl, fun j u d hu => by simp at hu⟩, h⟩
  | .tmp t :: rs, K, h => by
    obtain ⟨vs, l, h1, h2, h3⟩ := vE hS rs _ h
    refine ⟨a.tmps.getD t undef :: vs, e t :: l, by simp [List.mapM_cons, BX, h1], ⟨by simp [h2.len], fun j u d hu hd => ?_⟩, h3⟩
    cases j with
    | zero => simp only [jN, bH] at hu hd; subst hu; subst hd; exact hS.env t
    | succ j => exact h2.rep j u d (by simpa using hu) (by simpa using hd)
  | .cell x t :: rs, K, h => by
    obtain ⟨vs, l, h1, h2, h3⟩ := vE hS rs _ h.2
    obtain ⟨_, _, v, hr, hv⟩ := L3 (P := P) hS.rel (hS.env x) h.1
    have hld : Sem.run P (BX a.tmps (.cell x t)) w = .ok v w := by
      simp only [BX]
      unfold Instr.loadAt at hr
      generalize a.tmps.getD x undef = q at hr ⊢
      cases q with
      | pointer p => cases p with
        | some ad => simpa [Instr.sureAddr, asAddr] using hr
        | none => simp [Instr.sureAddr, stuck] at hr
      | _ => simp [Instr.sureAddr, stuck] at hr
    refine ⟨v :: vs, _ :: l, by simp [List.mapM_cons, hld, h1], ⟨by simp [h2.len], fun j u d hu hd => ?_⟩, h3⟩
    cases j with
    | zero => simp only [jN, bH] at hu hd; subst hu; subst hd; exact hv
    | succ j => exact h2.rep j u d (by simpa using hu) (by simpa using hd)
theorem C1 {fn : Func} {vs : List Value} {l : List D} (h : Sem.run P (fn.results.toList.mapM (BX a.tmps)) w = .ok vs w) (hrep : RepL (c7 M0 H σ) σ H.al w vs l) :
    ∃ v, (results fn a.tmps).run P w = .ok v w ∧ RepV (c7 M0 H σ) σ H.al w v (Em l) := by
  have hres : results fn a.tmps = (do let vs ← fn.results.mapM (BX a.tmps); Pure.pure (if h : vs.size = 1 then vs[0] else .tuple vs)) := rfl
  rw [hres, Array.mapM_eq_mapM_toList]
  refine ⟨if h : vs.toArray.size = 1 then vs.toArray[0] else .tuple vs.toArray, by simp [h], ?_⟩
  by_cases h1 : vs.length = 1
  · match vs, h1, hrep with
    | [v], _, hrep =>
      match l, hrep with
      | [d], hrep => simpa [Em] using hrep.rep 0 v d rfl rfl
      | [], hrep => have := hrep.len; simp at this
      | _ :: _ :: _, hrep => have := hrep.len; simp at this
  · have hsz : ¬ vs.toArray.size = 1 := by simpa using h1
    rw [dif_neg hsz]
    have hl : Em l = .tup l := by
      match l, hrep with
      | [], _ => rfl
      | [d], hrep => have := hrep.len; simp at this; exact absurd this h1
      | _ :: _ :: _, _ => rfl
    rw [hl]
    exact .tup vs l hrep.len hrep.rep
theorem aH {f:FuncId}{fn:Func}{x:Code}{cfg:Cfg}{args:List D}{Q:D→AHeap→Prop}(hm:P.follows .mixedOrders=true)(hf:P.funcs[f]?=some fn)(hb:fn.body=some x)
  (hnm:(fn.name=="runtime.NumGoroutine")=false) (hlen:args.length≤fn.ntmps) (hok:m7 cfg fn.ntmps x=true)
  (h:lT P cfg x (P5 P fn.results.toList Q) (yX args) H):ACalls P f args H Q:=by
 refine ⟨⟨fn,hf,hnm,by simp [hb]⟩,fun M0 σ w vals hR ha=>calls_of_wp hf hb ?_⟩
 have hS:St fn.ntmps M0 H σ w (yX args) { tmps:=vals.toArray++Array.replicate (fn.ntmps - vals.toArray.size) undef,defers:=[] }:=by
  refine ⟨hR,fun t=>?_,rfl,by simp [ha.len];omega⟩
  simp only [yX]
  by_cases ht:t<vals.length
  ·have h1:vals[t]?=some vals[t]:=aA ht
   have h2:args[t]?=some (args[t]'(by rw [← ha.len];exact ht)):=aA _
   have:=ha.rep t _ _ h1 h2
   rw [List.getD_eq_getElem?_getD,h2]
   simp only [aD,gW]
   rw [Array.getElem?_append_left (by simpa using ht)]
   simpa [h1] using this
  ·rw [List.getD_eq_getElem?_getD,aX (by rw [← ha.len];omega)]
   exact .junk _
 refine jC (mC hm x _ _ H h hok σ w _ hS) fun ex a' w' hc=>?_
 obtain ⟨e',H',σ',hq,hS',hst,hk⟩:=hc
 have fin:BE P fn.results.toList e' H' (fun l=>Q (Em l) H')→a'.defers=[]∧∃ v,(results fn a'.tmps).run P w'=.ok v w' ∧
   ∃ v2 d H2 σ2,Ending.returned v=.returned v2∧Rel M0 H2 σ2 w'∧RepV (c7 M0 H2 σ2) σ2 H2.al w' v2 d∧Stp σ w σ2 w'∧Keeps (c7 M0 H σ) σ H.al w (c7 M0 H2 σ2) σ2 H2.al w'∧Q d H2:=by
  intro hq
  obtain ⟨vs,l,h1,h2,h3⟩:=vE hS' _ _ hq
  obtain ⟨v,hv1,hv2⟩:=C1 (fn:=fn) h1 h2
  exact ⟨hS'.defers,v,hv1,v,_,H',σ',rfl,hS'.rel,hv2,hst,hk,h3⟩
 cases ex<;>first|exact fin hq|exact hq.elim
end
/-! ### pure contracts -/
theorem GC {l:List D}(h:∀ d∈l,d.cl=true):D.clL l=true:=by
 induction l with
 | nil=>rfl
 | cons a l ih=>simp [D.clL,h a (by simp),ih fun d hd=>h d (by simp [hd])]
def gB:Nat→Option Ow:=fun _=>none
def pM:Nat→Prop:=fun _=>False
def Pure (P:Program)(f:FuncId)(args:List D)(r:D):Prop :=
 TM P f∧∀ (M:Nat→Prop) (w:World) (vals:List Value),(∀ b,M b→b<w.heap.size)→RepL M gB pM w vals args →
  Calls P f vals.toArray w fun e w'=>∃ v,e=.returned v∧RepV M gB pM w' v r∧RowKit.Below w.heap.size w w'
def Own (P:Program)(f:FuncId)(args:List D)(ty:TypeId)(sz:Nat)(es:List (List D)):Prop :=
 TM P f∧∀ (M:Nat→Prop) (w:World) (vals:List Value),(∀ b,M b→b<w.heap.size)→RepL M gB pM w vals args →
  Calls P f vals.toArray w fun e w'=>∃ v xs,e=.returned v∧w'.ownsRow w.heap.size ty sz v es.length xs∧(∀ u∈xs,u.oneCell'=true)∧RepL (fun b=>M b∨v.ownBlock=some b) gB pM w' xs es.flatten∧D.clLL es=true∧(∀ c∈es,c.length=sz) ∧
   RowKit.Below w.heap.size w w'
def lW (H:AHeap):D→D
 | .tup vs=>.tup (vs.map (gX H))
 | d=>gX H d
def AX:D→List Nat
 | .tup vs=>vs.flatMap dO
 | d=>dO d
section
variable {P:Program} {M0:Nat→Prop} {H:AHeap} {σ:Nat→Option Ow} {w:World}
theorem oJ {v:Value}{d:D}(hR:Rel M0 H σ w)(hx:RepV (c7 M0 H σ) σ H.al w v d)(ids:List Nat)(hi:∀ i∈AX d,i∈ids) :
  RepV (c7 M0 (eW ids H) σ) σ (eW ids H).al w v (lW H d):=by
 cases d with
 | tup vs =>
  cases hx
  rename_i xs hl hr
  refine .tup xs _ (by simpa using hl) fun j u x hu hx=>?_
  rw [aR,bJ] at hx
  obtain ⟨y,hy,rfl⟩:=hx
  exact kM hR (hr j u y hu hy) ids fun i hii=>hi i (by simp only [AX,bU];exact ⟨y,aK hy,hii⟩)
 | _=>exact kM hR hx ids hi
theorem A5 (M:Nat→Prop):c7 M .emp gB=M:=by
 funext b
 exact propext ⟨fun h=>h.elim (fun h=>h) fun ⟨_,_,_,h,_⟩=>by simp [AHeap.emp] at h,.inl⟩
theorem AJ (M:Nat→Prop)(w:World)(hM:∀ b,M b→b<w.heap.size):Rel M .emp gB w :=
 ⟨fun _ _=>⟨rfl,rfl⟩,fun _ h=>h.elim,fun _ _ h=>by simp [AHeap.emp] at h,fun _ _ _ _ _ h=>by simp [gB] at h,fun _ _ _ h=>by simp [gB] at h,hM⟩
theorem tE {σ':Nat→Option Ow}{w':World}(h:Stp gB w σ' w'):RowKit.Below w.heap.size w w' :=
 ⟨h.os,h.tape,h.output,h.size,fun b hb=>h.old b hb fun _ _ h=>by simp [gB] at h⟩
theorem aP {f:FuncId}{args:List D}{r:D}(h:ACalls P f args .emp fun d H'=>lW H' d=r∧r.cl=true):Pure P f args r:=by
 refine ⟨h.1,fun M w vals hM ha=>(h.2 M gB w vals (AJ M w hM) (by rw [A5];exact ha)).mono fun e w' ⟨v,d,H',σ',he,hR,hv,hst,hk,hr,hcl⟩=>⟨v,he,?_,tE hst⟩⟩
 have h1:=oJ hR hv (AX d) fun i hi=>hi
 rw [hr] at h1
 exact h1.closed (fun ad u hm hc=>⟨fun h=>hm (.inl h),hc⟩) hcl
theorem AW {f:FuncId}{args:List D}{ty:TypeId}{sz:Nat}{es:List (List D)}
  (h:ACalls P f args .emp fun d H'=>∃ id k,d=.own id es.length∧H'.get id=some k∧k.es=es∧k.ty=ty∧k.sz=sz∧k.fz=false∧D.clLL es=true):Own P f args ty sz es:=by
 refine ⟨h.1,fun M w vals hM ha=>(h.2 M gB w vals (AJ M w hM) (by rw [A5];exact ha)).mono fun e w' ⟨v,d,H',σ',he,hR,hv,hst,hk,id,k,hd,hget,h1,h2,h3,hfz,hcl⟩=>?_⟩
 subst hd;subst h1;subst h2;subst h3
 obtain ⟨o,ho,l⟩:=hR.lies id k hget
 obtain ⟨xs,hrow,hx1,hrep⟩:=l.row
 cases hv
 rename_i _ _ hval
 rcases hval o ho with hlt|⟨_,rfl⟩
 ·have:=l.ver;omega
 ·refine ⟨o.val,xs,he,?_,hx1,⟨hrep.len,fun j u d hu hd=>(hrep.rep j u d hu hd).closed (fun ad u hm hc=>⟨fun h=>hm (h.elim .inl fun h=>.inr ⟨id,k,o,hget,hfz,ho,h⟩),hc⟩) ?_⟩,hcl,fun c hc=>(l.esz c hc).trans l.sz,tE hst⟩
  ·rw [← l.sz]
   refine ⟨hrow.1,?_⟩
   rcases hrow.2 with hn|⟨g,cap,cur,h1,_,h3⟩
   ·exact .inl hn
   ·refine .inr ⟨g,cap,cur,h1,?_,h3⟩
    rcases hst.new id o g ho (by simp [Ow.block,h1,Value.ownBlock]) with h|⟨_,o',h,_⟩
    ·exact h
    ·simp [gB] at h
  ·obtain ⟨c,hcm,hxm⟩:=kG.1 (aK hd)
   exact j8 (rF hcl c hcm) d hxm
theorem r8 {M:Nat→Prop}{N:Nat→Prop}:Keeps M gB pM w M σ N w:=⟨fun _ _ h k=>⟨h,k⟩,fun _ _ h=>h.elim,fun _ h=>h.elim⟩
theorem gK {M M':Nat→Prop}{N N':Nat→Prop}{σ':Nat→Option Ow}(hM:∀ b,¬ M b→¬ M' b){vs:List Value}{ds:List D}(h:RepL M σ N w vs ds)(hc:D.clL ds=true):RepL M' σ' N' w vs ds :=
 ⟨h.len,fun j u d hu hd=>(h.rep j u d hu hd).closed (fun ad u hm hc=>⟨hM _ hm,hc⟩) (j8 hc d (aK hd))⟩
theorem sS (hR:Rel M0 H σ w):∀ b,c7 M0 H σ b→b<w.heap.size:=by
 rintro b (h|⟨i,k,o,_,_,ho,hb⟩)
 ·exact hR.m0 b h
 ·exact (hR.lt i o b ho hb).1
theorem nG {f:FuncId}{args:List D}{r:D}{Q:D→AHeap→Prop}(hp:Pure P f args r)(hcl:D.clL args=true)(hQ:Q r H):ACalls P f args H Q:=by
 refine ⟨hp.1,fun M0 σ w vals hR ha=>(hp.2 (c7 M0 H σ) w vals (sS hR) (gK (fun _ h=>h) ha hcl)).mono fun e w' ⟨v,he,hv,hb⟩=>?_⟩
 obtain ⟨h1,h2,h3⟩:=hR.grow hb.os hb.tape hb.output hb.size hb.block
 exact ⟨v,r,H,σ,he,h1,hv.keep r8,h2,h3,hQ⟩
theorem AF {M0:Nat→Prop}(hR:Rel M0 H σ w){vals:List Value}{args:List D}(ha:RepL (c7 M0 H σ) σ H.al w vals args)(ids:List Nat)(hi:∀ i∈args.flatMap dO,i∈ids) :
  RepL (c7 M0 (eW ids H) σ) σ (eW ids H).al w vals (args.map (gX H)) :=
 ⟨by simpa using ha.len,fun j u d hu hd=>by
  rw [aR,bJ] at hd
  obtain ⟨y,hy,rfl⟩:=hd
  exact kM hR (ha.rep j u y hu hy) ids fun i hii=>hi i (bU.2 ⟨y,aK hy,hii⟩)⟩
def D.flat1:D→Bool
 | .int .. | .bool _ | .str _ | .nil | .nilp | .nilf=>true
 | _=>false
def D.flat:D→Bool
 | .tup vs=>vs.all D.flat1
 | d=>d.flat1
theorem IM {M M':Nat→Prop}{N N':Nat→Prop}{σ σ':Nat→Option Ow}{w w':World}{v:Value}{d:D}(h:RepV M σ N w v d)(hf:d.flat1=true):RepV M' σ' N' w' v d:=by
 cases h<;>first|(simp [D.flat1] at hf;done)|constructor
theorem xH {M M':Nat→Prop}{N N':Nat→Prop}{σ σ':Nat→Option Ow}{w w':World}{v:Value}{d:D}(h:RepV M σ N w v d)(hf:d.flat=true):RepV M' σ' N' w' v d:=by
 cases d with
 | tup vs =>
  cases h
  rename_i xs hl hr
  simp only [D.flat,cQ] at hf
  exact .tup xs vs hl fun j u x hu hx=>IM (hr j u x hu hx) (hf x (aK hx))
 | _=>exact IM h hf
theorem BH {f:FuncId}{args:List D}{r:D}{Q:D→AHeap→Prop}(hp:Pure P f (args.map (gX H)) r)(hcl:D.clL (args.map (gX H))=true)(hf:r.flat=true)(hQ:Q r H):ACalls P f args H Q:=by
 refine ⟨hp.1,fun M0 σ w vals hR ha=>?_⟩
 obtain ⟨f1,f2,f3,f4⟩:=fH (args.flatMap dO) hR
 refine (hp.2 (c7 M0 (eW (args.flatMap dO) H) σ) w vals (sS f1) (gK (fun _ h=>h) (AF hR ha _ fun i h=>h) hcl)).mono fun e w' ⟨v,he,hv,hb⟩=>?_
 obtain ⟨h1,h2,h3⟩:=hR.grow hb.os hb.tape hb.output hb.size hb.block
 exact ⟨v,r,H,σ,he,h1,xH hv hf,h2,h3,hQ⟩
theorem Kw {f:FuncId}{args:List D}{r:D}{Q:D→AHeap→Prop}(hp:Pure P f (args.map (gX H)) r)(hcl:D.clL (args.map (gX H))=true)(hQ:Q r (eW (args.flatMap dO) H)):ACalls P f args H Q:=by
 refine ⟨hp.1,fun M0 σ w vals hR ha=>?_⟩
 obtain ⟨f1,f2,f3,f4⟩:=fH (args.flatMap dO) hR
 refine (hp.2 (c7 M0 (eW (args.flatMap dO) H) σ) w vals (sS f1) (gK (fun _ h=>h) (AF hR ha _ fun i h=>h) hcl)).mono fun e w' ⟨v,he,hv,hb⟩=>?_
 obtain ⟨h1,h2,h3⟩:=f1.grow hb.os hb.tape hb.output hb.size hb.block
 exact ⟨v,r,_,σ,he,h1,hv.keep r8,h2,f2.trans h3,hQ⟩
theorem M7 {f:FuncId}{args:List D}{ty:TypeId}{sz:Nat}{es:List (List D)}{Q:D→AHeap→Prop}(hp:Own P f args ty sz es)(hcl:D.clL args=true)
  (hQ:Q (.own H.next es.length) (H.push H.next ⟨ty,sz,es,false⟩)):ACalls P f args H Q:=by
 refine ⟨hp.1,fun M0 σ w vals hR ha=>(hp.2 (c7 M0 H σ) w vals (sS hR) (gK (fun _ h=>h) ha hcl)).mono fun e w' ⟨v,xs,he,hrow,h1,hrep,hcll,hsz,hb⟩=>?_⟩
 have hrow0:w'.ownsRow 0 ty sz v es.length xs:=⟨hrow.1,hrow.2.imp (fun x=>x) fun ⟨g,cap,cur,a,b,c⟩=>⟨g,cap,cur,a,dY _,c⟩⟩
 have hbk:∀ b,v.ownBlock=some b→w.heap.size≤b:=fun b hb'=>by
  rcases hrow.2 with hn|⟨g,cap,cur,h1,h2,h3⟩
  ·rw [hn.1] at hb';simp [Value.ownBlock] at hb'
  ·rw [h1] at hb';simp only [Value.ownBlock,bH] at hb';omega
 have hG:∀ ad,¬ (c7 M0 H σ ad∨v.ownBlock=some ad)→¬ c7 M0 (H.push H.next ⟨ty,sz,es,false⟩) (fun i=>if i=H.next then some ⟨es.length,v,sz,ty⟩ else σ i) ad:=by
  intro ad hm h
  rcases h with h|⟨i,k',o',hk',hf,ho',hb'⟩
  ·exact hm (.inl (.inl h))
  ·by_cases hii:i=H.next
   ·simp only [hii,if_true,bH] at ho'
    subst ho'
    exact hm (.inr hb')
   ·simp only [hii,if_false] at ho'
    simp only [AHeap.push,hii,if_false] at hk'
    exact hm (.inl (.inr ⟨i,k',o',hk',hf,ho',hb'⟩))
 have hclF:D.clL es.flatten=true:=GC fun d hd=>by
  obtain ⟨c,hcm,hxm⟩:=kG.1 hd
  exact j8 (rF hcll c hcm) d hxm
 obtain ⟨p1,p2,p3⟩:=Rel.pushG hR H.next (fun h=>mD _ (hR.nxt _ h)) (w':=w') hb.os hb.tape hb.output hb.size hb.block ⟨ty,sz,es,false⟩ ⟨es.length,v,sz,ty⟩
  hbk rfl rfl rfl hsz xs hrow0 h1 (fun hk=>gK hG hrep hclF)
 exact ⟨v,_,_,_,he,p1,.own v _ _ (.inl rfl) (by rcases hrow.2 with ⟨hn,_⟩|⟨g,cap,cur,hn,_⟩<;>simp [hn,Value.oneCell']) (fun o ho=>by simp at ho;subst ho;exact .inr ⟨rfl,rfl⟩),p2,p3,hQ⟩
end
end Go.Abs
end
section
namespace Go.Abs
inductive SOut where
 | op (o:AOut)
 | call (f:FuncId) (args:List D)
 | gop (t:Bool) (g:Bool) (o:AOut)
 | gcall (t:Bool) (g:Bool) (f:FuncId) (args:List D)
 | bad
def Js (c:Option (FuncId × List D))(o:AOut):SOut :=
 match c with
 | some (f,args)=>.call f args
 | none=>.op o
def GR (gc:Option (Bool × Bool))(b:Bool)(g:Bool)(c:Option (FuncId × List D))(o:AOut):SOut :=
 match gc with
 | some (t,c')=>match c with
  | some (f,args)=>.gcall (t&&(c'==b)) g f args
  | none=>.gop (t&&(c'==b)) g o
 | none=>.bad
def k6 (P:Program)(md:Nat→Bool)(nid:Nat)(ops:Array Oper)(e:cY)(o:Oper)(H:AHeap):SOut :=
 match o.guard with
 | none=>Js (f7 e o) (DZ P nid md e o H)
 | some (j,b)=>GR (gD ops e j) b (Rd e (gO o.op)) (f7 (gE e o.op) o) (DZ P nid md (gE e o.op) o H)
def fB (P:Program)(md:Nat→Bool)(ops:Array Oper)(rest:List Oper)(e:cY)(dst:Option Tmp)(K:cY→AHeap→Prop)(f:FuncId)(args:List D)(H:AHeap):Prop :=
 ACalls P f args H fun v H1=>lR P md ops rest (oW e dst v) H1 K
def xG (P:Program)(md:Nat→Bool)(ops:Array Oper)(rest:List Oper)(e:cY)(dst:Option Tmp)(K:cY→AHeap→Prop)(t:Bool)(f:FuncId)(args:List D)(H:AHeap):Prop :=
 (∃ r S,(t=true→∀ H',fC S H' H→ACalls P f args H' fun v H1=>v=r∧H1=H')∧lR P md ops rest (oW e dst (.opt t r)) H K) ∨
  ((t=true→ACalls P f args H fun v H1=>lR P md ops rest (oW e dst (.opt true v)) H1 K)∧(t=false→∃ r,lR P md ops rest (oW e dst (.opt false r)) H K))
def xK (P:Program)(md:Nat→Bool)(ops:Array Oper)(rest:List Oper)(e:cY)(dst:Option Tmp)(H:AHeap)(K:cY→AHeap→Prop):SOut→Prop
 | .op o=>o.cond∧(o.fact→lR P md ops rest (oW e dst o.val) o.heap K)
 | .call f args=>fB P md ops rest e dst K f args H
 | .gop t g o=>(t=true→g=true)∧(t=true→o.cond∧o.heap=H)∧((t=true→o.fact)→lR P md ops rest (oW e dst (.opt t o.val)) H K)
 | .gcall t g f args=>(t=true→g=true)∧xG P md ops rest e dst K t f args H
 | .bad=>False
theorem Rb (P : Program) (md : Nat → Bool) (ops : Array Oper) (o : Oper) (rest : List Oper) (e : cY) (H : AHeap) (K : cY → AHeap → Prop) :
    lR P md ops (o :: rest) e H K = xK P md ops rest e o.dst H K (k6 P md H.next ops e o H) := by
  obtain ⟨dst, op, type, pos, after, guard⟩ := o
  cases guard with
  | none =>
    simp only [lR, nC, k6]
    cases hc : f7 e { dst := dst, op := op, type := type, pos := pos, after := after, guard := none } with
    | none => simp [Js, xK]
    | some p => simp [Js, xK, fB]
  | some p =>
    obtain ⟨j, b⟩ := p
    simp only [lR, nC, k6]
    cases hg : gD ops e j with
    | none => simp [GR, xK]
    | some gc =>
      obtain ⟨t, c'⟩ := gc
      simp only
      cases hc : f7 (gE e op) { dst := dst, op := op, type := type, pos := pos, after := after, guard := some (j, b) } with
      | none => simp [GR, xK]
      | some p => simp [GR, xK, xG]
@[go_sem] theorem V3 (P:Program)(md:Nat→Bool)(ops:Array Oper)(e:cY)(H:AHeap)(K:cY→AHeap→Prop):lR P md ops [] e H K=K e H:=rfl
@[go_sem] theorem Xd (P:Program)(md:Nat→Bool)(ops:Array Oper)(rest:List Oper)(e:cY)(dst:Option Tmp)(H H':AHeap)(K:cY→AHeap→Prop)(c f:Prop)(v:D) :
  xK P md ops rest e dst H K (.op ⟨c,f,v,H'⟩)=(c∧(f→lR P md ops rest (oW e dst v) H' K)):=rfl
@[go_sem] theorem U6 (P:Program)(md:Nat→Bool)(ops:Array Oper)(rest:List Oper)(e:cY)(dst:Option Tmp)(H:AHeap)(K:cY→AHeap→Prop)(f:FuncId)(args:List D) :
  xK P md ops rest e dst H K (.call f args)=fB P md ops rest e dst K f args H:=rfl
@[go_sem] theorem VZ (P:Program)(md:Nat→Bool)(ops:Array Oper)(rest:List Oper)(e:cY)(dst:Option Tmp)(H H':AHeap)(K:cY→AHeap→Prop)(c f:Prop)(v:D)(t g:Bool) :
  xK P md ops rest e dst H K (.gop t g ⟨c,f,v,H'⟩)=((t=true→g=true)∧(t=true→c∧H'=H)∧((t=true→f)→lR P md ops rest (oW e dst (.opt t v)) H K)):=rfl
@[go_sem] theorem Uc (P:Program)(md:Nat→Bool)(ops:Array Oper)(rest:List Oper)(e:cY)(dst:Option Tmp)(H:AHeap)(K:cY→AHeap→Prop)(f:FuncId)(args:List D)(t g:Bool) :
  xK P md ops rest e dst H K (.gcall t g f args)=((t=true→g=true)∧xG P md ops rest e dst K t f args H):=rfl
@[go_sem] theorem Vo (f:FuncId)(args:List D)(o:AOut):Js (some (f,args)) o=.call f args:=rfl
@[go_sem] theorem Vp (o:AOut):Js none o=.op o:=rfl
@[go_sem] theorem V7 (e:cY)(d t:Nat)(v:D):oW e (some d) v t=if t=d then v else e t:=rfl
@[go_sem] theorem V8 (e:cY)(v:D):oW e none v=e:=rfl
def Tv:List (Nat × D)→cY
 | []=>fun _=>.junk
 | (t,d) :: l=>fun t'=>if t'=t then d else Tv l t'
@[go_sem] theorem Xb (t:Nat):Tv [] t=.junk:=rfl
@[go_sem] theorem VW (t:Nat)(d:D)(l:List (Nat × D))(t':Nat):Tv ((t,d) :: l) t'=if t'=t then d else Tv l t':=rfl
@[go_sem] theorem Xa (t:Nat):yX [] t=.junk:=by simp [yX]
@[go_sem] theorem VU (d:D)(l:List D):yX (d :: l) 0=d:=rfl
@[go_sem] theorem VV (d:D)(l:List D)(t:Nat):yX (d :: l) (t+1)=yX l t:=by simp [yX]
@[go_sem] theorem Pv (e:cY)(t:Nat):eX e (.tmp t)=e t:=rfl
@[go_sem] theorem W8 (e:cY)(f:FuncId):eX e (.func f)=.fn f []:=rfl
@[go_sem] theorem X8 (e:cY)(k:IntKind)(n:Int):eX e (.const (.int k n))=.int k n:=rfl
@[go_sem] theorem W9 (e:cY)(b:Bool):eX e (.const (.bool b))=.bool b:=rfl
@[go_sem] theorem X6 (e:cY)(b:ByteArray):eX e (.const (.string b))=.str b:=rfl
@[go_sem] theorem X7 (e:cY):eX e (.const (.slice none 0 0))=.nil:=rfl
@[go_sem] theorem W6 (e:cY):eX e (.const (.pointer none))=.nilp:=rfl
@[go_sem] theorem W7 (e:cY):eX e (.const .nilFunc)=.nilf:=rfl
@[go_sem] theorem UJ:iG (.const (.slice none 0 0))=true:=rfl
@[go_sem] theorem UH (t:Nat):iG (.tmp t)=false:=rfl
@[go_sem] theorem UK (k:IntKind)(n:Int):iG (.const (.int k n))=false:=rfl
@[go_sem] theorem T0 (b:Bool):iG (.const (.bool b))=false:=rfl
@[go_sem] theorem UI (b:ByteArray):iG (.const (.string b))=false:=rfl
@[go_sem] theorem TX:iG (.const (.pointer none))=false:=rfl
@[go_sem] theorem TY:iG (.const .nilFunc)=false:=rfl
@[go_sem] theorem TZ (f:FuncId):iG (.func f)=false:=rfl
@[go_sem] theorem WR (md:Nat→Bool)(t:Nat):Df md (some t)=md t:=rfl
@[go_sem] theorem WS (md:Nat→Bool):Df md none=false:=rfl
section
variable (P:Program) (md:Nat→Bool) (nid:Nat) (ops:Array Oper) (e:cY) (d:Option Tmp) (ty:TypeId) (p:String) (af:Array Edge) (H:AHeap)
@[go_sem] theorem YW (x:Operand):k6 P md nid ops e ⟨d,.move x,ty,p,af,none⟩ H=.op (if iG x then CP P nid (Df md d) ty H else ⟨True,True,eX e x,H⟩):=rfl
@[go_sem] theorem Wb (x:Operand):k6 P md nid ops e ⟨d,.assign x,ty,p,af,none⟩ H=.op (if iG x then CP P nid (Df md d) ty H else ⟨True,True,eX e x,H⟩):=rfl
@[go_sem] theorem YV (c a b:Operand):k6 P md nid ops e ⟨d,.pick c a b,ty,p,af,none⟩ H=.op (xZ (eX e c) (eX e a) (eX e b) H):=rfl
@[go_sem] theorem Xu (t:TypeId):k6 P md nid ops e ⟨d,.alloc t,ty,p,af,none⟩ H=.op (vF P nid (Df md d) t H):=rfl
@[go_sem] theorem Zt (t:TypeId)(x:Operand):k6 P md nid ops e ⟨d,.box t x,ty,p,af,none⟩ H=.op (Kp P nid (Df md d) t (eX e x) H):=rfl
@[go_sem] theorem Xs (t:TypeId)(ps:Array (Nat × Operand)):k6 P md nid ops e ⟨d,.build t ps,ty,p,af,none⟩ H=.op (rC P t (ps.toList.map fun p=>(p.1,eX e p.2)) H):=rfl
@[go_sem] theorem Yc (md:Nat→Bool)(H:AHeap)(d:D):PF md H d=if md 1000001 then d else gX H d:=rfl
@[go_sem] theorem Yb (md:Nat→Bool)(d:D):Kg md d=if md 1000001 then [] else dO d:=rfl
@[go_sem] theorem S1 (t:TypeId)(n:Nat)(ps:Array (Nat × Operand)):k6 P md nid ops e ⟨d,.buildSlice t n ps,ty,p,af,none⟩ H =
  .op (if md 1000001 then gL P nid (Df md d) t n (ps.toList.map fun p=>(p.1,eX e p.2)) H else gL P nid (Df md d) t n (ps.toList.map fun p=>(p.1,gX H (eX e p.2))) (eW (ps.toList.flatMap fun p=>dO (eX e p.2)) H)):=by
 show SOut.op (gL P nid (Df md d) t n (ps.toList.map fun p=>(p.1,PF md H (eX e p.2))) (eW (ps.toList.flatMap fun p=>Kg md (eX e p.2)) H))=_
 congr 1
 cases h:md 1000001
 ·simp [PF,Kg,h]
 ·simp only [PF,Kg,h,if_true]
  rw [show (ps.toList.flatMap fun _=>([]:List Nat))=[] by induction ps.toList with|nil=>rfl|cons a l ih=>simp];rfl
@[go_sem] theorem YX (t:TypeId)(x:Operand):k6 P md nid ops e ⟨d,.load t x,ty,p,af,none⟩ H=.op (lS P t (eX e x) H):=rfl
@[go_sem] theorem Xo (t:TypeId)(x y:Operand):k6 P md nid ops e ⟨d,.store t x y,ty,p,af,none⟩ H =
  .op (if md 1000000 then kC P t (eX e x) (gX H (eX e y)) (eW (dO (eX e y)) H) else kC P t (eX e x) (eX e y) H):=rfl
@[go_sem] theorem Uo (x:Operand):k6 P md nid ops e ⟨d,.nilCheck x,ty,p,af,none⟩ H=.op (iB (eX e x) H):=rfl
@[go_sem] theorem Xt (b:BinOp)(t t':TypeId)(x y:Operand):k6 P md nid ops e ⟨d,.binOp b t x y t',ty,p,af,none⟩ H=.op (Nb P t b (eX e x) (eX e y) H):=rfl
@[go_sem] theorem YU (u:UnOp)(t:TypeId)(x:Operand):k6 P md nid ops e ⟨d,.unOp u t x,ty,p,af,none⟩ H=.op (SI u (eX e x) H):=rfl
@[go_sem] theorem Vr (s t:TypeId)(x:Operand):k6 P md nid ops e ⟨d,.convert s t x,ty,p,af,none⟩ H=.op (kX P s t (eX e x) H):=rfl
@[go_sem] theorem Up (f:FuncId)(caps:Array Operand):k6 P md nid ops e ⟨d,.makeFunc (.func f) #[] caps,ty,p,af,none⟩ H=.op ⟨True,True,.fn f (caps.toList.map (eX e)),H⟩:=rfl
@[go_sem] theorem TN (t:TypeId)(l c:Operand):k6 P md nid ops e ⟨d,.makeSlice t l c,ty,p,af,none⟩ H=.op (BG P nid t (eX e l) (eX e c) H):=rfl
@[go_sem] theorem Xp (t:TypeId)(x:Operand)(lo hi:Option Operand):k6 P md nid ops e ⟨d,.slice t x lo hi none,ty,p,af,none⟩ H=.op (n4 P t (eX e x) (lo.map (eX e)) (hi.map (eX e)) H):=rfl
@[go_sem] theorem TP (t:TypeId)(x:Operand)(f:Nat):k6 P md nid ops e ⟨d,.fieldAddr t x f,ty,p,af,none⟩ H=.op (f9 P t (eX e x) f H):=rfl
@[go_sem] theorem TO (t:TypeId)(x i:Operand):k6 P md nid ops e ⟨d,.indexAddr t x i,ty,p,af,none⟩ H=.op (f8 P t (eX e x) (eX e i) H):=rfl
@[go_sem] theorem Xq (t:TypeId)(x i:Operand):k6 P md nid ops e ⟨d,.index t x i,ty,p,af,none⟩ H=.op (rB P t (eX e x) (eX e i) H):=rfl
@[go_sem] theorem Vq (x:Operand)(i:Nat):k6 P md nid ops e ⟨d,.extract x i,ty,p,af,none⟩ H=.op (kW (eX e x) i H):=rfl
@[go_sem] theorem Vs (b:Builtin)(args:Array Operand)(ts:Array TypeId):k6 P md nid ops e ⟨d,.call ⟨.builtin b,args,ts⟩,ty,p,af,none⟩ H=.op (uF P nid b (args.toList.map (eX e)) ts.toList H):=rfl
@[go_sem] theorem YY (f:FuncId)(args:Array Operand)(ts:Array TypeId):k6 P md nid ops e ⟨d,.call ⟨.value (.func f),args,ts⟩,ty,p,af,none⟩ H=.call f (args.toList.map (eX e)):=by
 simp [k6,f7,eX,Js]
end
@[go_sem] theorem Vh (P:Program)(md:Nat→Bool)(ops:Array Oper)(rest:List Oper)(e:cY)(H:AHeap)(K:cY→AHeap→Prop)(d:Option Tmp)(op:Op)(ty:TypeId)(p:String)(af:Array Edge)(g:Option (Nat × Bool)) :
  lR P md ops (⟨d,op,ty,p,af,g⟩ :: rest) e H K=xK P md ops rest e d H K (k6 P md H.next ops e ⟨d,op,ty,p,af,g⟩ H):=Rb P md ops _ rest e H K
/-! ### code -/
section
variable (P:Program) (c:Cfg) (Q:Exit→cY→AHeap→Prop) (e:cY) (H:AHeap)
def vP (P:Program)(c:Cfg)(a b:Code)(Q:Exit→cY→AHeap→Prop)(e:cY)(H:AHeap):D→Prop
 | .bool t=>(t=true→lT P c a Q e H)∧(t=false→lT P c b Q e H)
 | _=>False
def zG (P:Program)(c:Cfg)(b:Code)(Q:Exit→cY→AHeap→Prop)(e:cY)(H:AHeap):Prop:=lT P c (.loop b) Q e H
@[go_sem] theorem Yh:lT P c .skip Q e H=Q .normal e H:=rfl
@[go_sem] theorem V6 (id:Nat)(l:List Oper):lT P c (.region id l.toArray false) Q e H=lR P c.own l.toArray l e H (Q .normal):=by
 simp [lT]
@[go_sem] theorem Yk (id:Nat)(l:List Oper):lT P c (.region id l.toArray true) Q e H=iS P c.own l.toArray (c.sp id) H.next 0 l [] e ⟨H.next+l.length,H.al,H.get⟩ (Q .normal):=by
 simp [lT]
@[go_sem] theorem V5 (a b:Code):lT P c (.seq a b) Q e H=lT P c a (pC (lT P c b Q) Q) e H:=rfl
@[go_sem] theorem Yl (x:Operand)(a b:Code):lT P c (.cond x a b) Q e H=vP P c a b Q e H (eX e x):=rfl
@[go_sem] theorem Xl (id:Nat)(b:Code):lT P c (.block id b) Q e H=lT P c b (Aq id Q) e H:=rfl
@[go_sem] theorem Yi (b:Code):lT P c (.loop b) Q e H=zG P c b Q e H:=rfl
@[go_sem] theorem Yj (id:Nat):lT P c (.exit id) Q e H=Q (.exit id) e H:=rfl
@[go_sem] theorem Zf:lT P c .ret Q e H=Q .ret e H:=rfl
@[go_sem] theorem U7 (a b:Code):vP P c a b Q e H (.bool true)=lT P c a Q e H:=by simp [vP]
@[go_sem] theorem Ud (a b:Code):vP P c a b Q e H (.bool false)=lT P c b Q e H:=by simp [vP]
@[go_sem] theorem SY (n:cY→AHeap→Prop):pC n Q .normal e H=n e H:=rfl
@[go_sem] theorem Vj (n:cY→AHeap→Prop):pC n Q .ret e H=Q .ret e H:=rfl
@[go_sem] theorem Ul (n:cY→AHeap→Prop)(i:Nat):pC n Q (.exit i) e H=Q (.exit i) e H:=rfl
@[go_sem] theorem SS (i:Nat):Aq i Q .normal e H=Q .normal e H:=rfl
@[go_sem] theorem Vb (i:Nat):Aq i Q .ret e H=Q .ret e H:=rfl
@[go_sem] theorem MM (i j:Nat):Aq i Q (.exit j) e H=if j=i then Q .normal e H else Q (.exit j) e H:=rfl
@[go_sem] theorem WD (rs:List ResultVar)(R:D→AHeap→Prop):P5 P rs R .ret e H=BE P rs e H fun l=>R (Em l) H:=rfl
@[go_sem] theorem TQ (rs:List ResultVar)(R:D→AHeap→Prop):P5 P rs R .normal e H=BE P rs e H fun l=>R (Em l) H:=rfl
@[go_sem] theorem Xj (K:List D→Prop):BE P [] e H K=K []:=rfl
@[go_sem] theorem Xi (t:Tmp)(r:List ResultVar)(K:List D→Prop):BE P (.tmp t :: r) e H K=BE P r e H fun l=>K (e t :: l):=rfl
@[go_sem] theorem V2 (a:Tmp)(t:TypeId)(r:List ResultVar)(K:List D→Prop):BE P (.cell a t :: r) e H K=((lS P t (e a) H).cond∧BE P r e H fun l=>K ((lS P t (e a) H).val :: l)):=rfl
@[go_sem] theorem Wa (d:D):Em [d]=d:=rfl
end
attribute [go_sem] if_true if_false eM Bool.true_eq_false eq_self true_and and_true forall_const true_implies false_implies rK fA List.toList_toArray fD Option.map_none
 HB vU fE oF List.length_nil eU implies_true
attribute [go_sem] Hz Nb lS kC eC f9 f8 D1 jB nD BG Kp vF rC gL n4 rB kX xZ s6 BF iB SI kW CP uF s7 rA eW AOut.bad
 m4 eD D.cells zJ BK.place SP ite_self
@[go_sem] theorem X3 (id:Nat):AHeap.emp.get id=none:=rfl
@[go_sem] theorem WQ:AHeap.emp.next=0:=rfl
@[go_sem] theorem W3 (H:AHeap)(i j:Nat)(k:Blk):(H.push i k).get j=if j=i then some k else H.get j:=rfl
@[go_sem] theorem X1 (H:AHeap)(i j:Nat)(k:Blk):(H.put i k).get j=if j=i then some k else H.get j:=rfl
@[go_sem] theorem VK (H:AHeap)(i:Nat)(k:Blk):(H.push i k).next=if i<H.next then H.next else i+1:=rfl
@[go_sem] theorem WO (H:AHeap)(i:Nat)(k:Blk):(H.put i k).next=H.next:=rfl
@[go_sem] theorem W4 (n:Nat)(al:Nat→Prop)(g:Nat→Option Blk)(j:Nat):(AHeap.mk n al g).get j=g j:=rfl
@[go_sem] theorem VL (n:Nat)(al:Nat→Prop)(g:Nat→Option Blk):(AHeap.mk n al g).next=n:=rfl
section
variable (H:AHeap)
@[go_sem] theorem WA (k:IntKind)(n:Int):gQ H (.int k n)=.int k n:=rfl
@[go_sem] theorem VF (b:Bool):gQ H (.bool b)=.bool b:=rfl
@[go_sem] theorem Wx (b:ByteArray):gQ H (.str b)=.str b:=rfl
@[go_sem] theorem Wz:gQ H .nil=.nil:=rfl
@[go_sem] theorem VE (es:List (List D)):gQ H (.list es)=.list es:=rfl
@[go_sem] theorem WB (es:List D):gQ H (.adr es)=.adr es:=rfl
@[go_sem] theorem VC:gQ H .nilp=.nilp:=rfl
@[go_sem] theorem VD:gQ H .nilf=.nilf:=rfl
@[go_sem] theorem Xx (f:FuncId)(l:List D):gQ H (.fn f l)=.fn f l:=rfl
@[go_sem] theorem Wy (id n:Nat):gQ H (.own id n)=match H.get id with|some k=>if k.es.length=n then .list k.es else .own id n|none=>.own id n:=rfl
@[go_sem] theorem Ww (id n lo hi:Nat):gQ H (.win id n lo hi)=match H.get id with|some k=>if k.es.length=n then .list ((k.es.take hi).drop lo) else .win id n lo hi|none=>.win id n lo hi:=rfl
@[go_sem] theorem Wo (id n lo hi:Nat):gX H (.win id n lo hi)=gQ H (.win id n lo hi):=rfl
@[go_sem] theorem Wf (id n lo hi:Nat):lW H (.win id n lo hi)=gQ H (.win id n lo hi):=rfl
@[go_sem] theorem Wt (k:IntKind)(n:Int):gX H (.int k n)=.int k n:=rfl
@[go_sem] theorem VB (b:Bool):gX H (.bool b)=.bool b:=rfl
@[go_sem] theorem Wp (b:ByteArray):gX H (.str b)=.str b:=rfl
@[go_sem] theorem Ws:gX H .nil=.nil:=rfl
@[go_sem] theorem VA (es:List (List D)):gX H (.list es)=.list es:=rfl
@[go_sem] theorem Wv (es:List D):gX H (.adr es)=.adr es:=rfl
@[go_sem] theorem Vy:gX H .nilp=.nilp:=rfl
@[go_sem] theorem Vz:gX H .nilf=.nilf:=rfl
@[go_sem] theorem Xw (f:FuncId)(l:List D):gX H (.fn f l)=.fn f l:=rfl
@[go_sem] theorem Wu (l:List D):gX H (.agg l)=.agg (l.map (gQ H)):=rfl
@[go_sem] theorem Wr (id n:Nat):gX H (.own id n)=gQ H (.own id n):=rfl
@[go_sem] theorem Wg (l:List D):lW H (.tup l)=.tup (l.map (gX H)):=rfl
@[go_sem] theorem Wl (k:IntKind)(n:Int):lW H (.int k n)=.int k n:=rfl
@[go_sem] theorem Vx (b:Bool):lW H (.bool b)=.bool b:=rfl
@[go_sem] theorem Wi (b:ByteArray):lW H (.str b)=.str b:=rfl
@[go_sem] theorem Wk:lW H .nil=.nil:=rfl
@[go_sem] theorem Vw (es:List (List D)):lW H (.list es)=.list es:=rfl
@[go_sem] theorem Wn (es:List D):lW H (.adr es)=.adr es:=rfl
@[go_sem] theorem Vu:lW H .nilp=.nilp:=rfl
@[go_sem] theorem Vv:lW H .nilf=.nilf:=rfl
@[go_sem] theorem Xv (f:FuncId)(l:List D):lW H (.fn f l)=.fn f l:=rfl
@[go_sem] theorem Wm (l:List D):lW H (.agg l)=.agg (l.map (gQ H)):=rfl
@[go_sem] theorem Wj (id n:Nat):lW H (.own id n)=gQ H (.own id n):=rfl
end
@[go_sem] theorem WY (k:IntKind)(n:Int):iW (.int k n)=[]:=rfl
@[go_sem] theorem VQ (b:Bool):iW (.bool b)=[]:=rfl
@[go_sem] theorem WV (b:ByteArray):iW (.str b)=[]:=rfl
@[go_sem] theorem WX:iW .nil=[]:=rfl
@[go_sem] theorem VP (es:List (List D)):iW (.list es)=[]:=rfl
@[go_sem] theorem WZ (es:List D):iW (.adr es)=[]:=rfl
@[go_sem] theorem VN:iW .nilp=[]:=rfl
@[go_sem] theorem VO:iW .nilf=[]:=rfl
@[go_sem] theorem XU (f:FuncId)(l:List D):iW (.fn f l)=[]:=rfl
@[go_sem] theorem WU (id n lo hi:Nat):iW (.win id n lo hi)=[id]:=rfl
@[go_sem] theorem Uv (id n lo hi:Nat):dO (.win id n lo hi)=[id]:=rfl
@[go_sem] theorem WW (id n:Nat):iW (.own id n)=[id]:=rfl
@[go_sem] theorem UA (k:IntKind)(n:Int):dO (.int k n)=[]:=rfl
@[go_sem] theorem TV (b:Bool):dO (.bool b)=[]:=rfl
@[go_sem] theorem Uw (b:ByteArray):dO (.str b)=[]:=rfl
@[go_sem] theorem Uz:dO .nil=[]:=rfl
@[go_sem] theorem TU (es:List (List D)):dO (.list es)=[]:=rfl
@[go_sem] theorem UC (es:List D):dO (.adr es)=[]:=rfl
@[go_sem] theorem TS:dO .nilp=[]:=rfl
@[go_sem] theorem TT:dO .nilf=[]:=rfl
@[go_sem] theorem VH (f:FuncId)(l:List D):dO (.fn f l)=[]:=rfl
@[go_sem] theorem Uy (id n:Nat):dO (.own id n)=[id]:=rfl
@[go_sem] theorem UB (l:List D):dO (.agg l)=l.flatMap iW:=rfl
@[go_sem] theorem W5 (H:AHeap)(id:Nat):H.frz id=match H.get id with|some k=>H.put id { k with fz:=true } | none=>H:=rfl
@[go_sem] theorem WE (H:AHeap)(id:Nat)(k k':Blk):(H.push id k).put id k'=H.push id k':=by
 unfold AHeap.push AHeap.put
 congr 1
 funext i
 by_cases h:i=id<;>simp [h]
@[go_sem] theorem Xz (H:AHeap)(id:Nat)(k k':Blk):(H.put id k).put id k'=H.put id k':=by
 unfold AHeap.put
 congr 1
 funext i
 by_cases h:i=id<;>simp [h]
section
variable {P:Program} {c:Cfg} {Q:Exit→cY→AHeap→Prop} {e:cY} {H:AHeap} {a b:Code}
theorem aJ {t:Bool}(h1:t=true→lT P c a Q e H)(h2:t=false→lT P c b Q e H):vP P c a b Q e H (.bool t):=⟨h1,h2⟩
theorem eZ {p:Prop}[Decidable p](h1:p→lT P c a Q e H)(h2:¬ p→lT P c b Q e H):vP P c a b Q e H (.bool (decide p)):=⟨fun h=>h1 (of_decide_eq_true h),fun h=>h2 (of_decide_eq_false h)⟩
end
attribute [irreducible] vP fB xG zG
end Go.Abs
end
section
namespace Go.Abs
section
variable {P:Program} {c:Cfg} {md:Nat→Bool}
theorem Gy {dr : Option Nat} {nid : Nat} {ops : Array Oper} {e : cY} {o : Oper} {H : AHeap} {K K' : D → AHeap → List Nat → Prop} (hk : ∀ v H F, K v H F → K' v H F) (h : nC P md dr nid ops e o H K) : nC P md dr nid ops e o H K' := by
  unfold nC at h ⊢
  cases hg : o.guard with
  | none =>
    simp only [hg] at h ⊢
    cases hc : f7 e o with
    | none => simp only [hc] at h ⊢; exact ⟨h.1, fun hf => hk _ _ _ (h.2 hf)⟩
    | some p =>
      obtain ⟨f, args⟩ := p
      simp only [hc] at h ⊢
      cases dr with
      | none => exact h.mono fun _ _ h => hk _ _ _ h
      | some m =>
        rcases h with ⟨r, S, h1, h2⟩ | ⟨hmd, r, S, u, q, hu, hq, h1, h2⟩
        · exact .inl ⟨r, S, h1, hk _ _ _ h2⟩
        · exact .inr ⟨hmd, r, S, u, q, hu, hq, h1, hk _ _ _ h2⟩
  | some p =>
    obtain ⟨j, b⟩ := p
    simp only [hg] at h ⊢
    cases hgd : gD ops e j with
    | none => simp only [hgd] at h
    | some gc =>
      obtain ⟨g, c'⟩ := gc
      simp only [hgd] at h ⊢
      refine ⟨h.1, ?_⟩
      have h2 := h.2
      cases hc : f7 (gE e o.op) o with
      | none => simp only [hc] at h2 ⊢; exact ⟨h2.1, fun hf => hk _ _ _ (h2.2 hf)⟩
      | some p =>
        obtain ⟨f, args⟩ := p
        simp only [hc] at h2 ⊢
        cases dr with
        | some _ => obtain ⟨r, S, h3, h4⟩ := h2; exact ⟨r, S, h3, hk _ _ _ h4⟩
        | none =>
          rcases h2 with ⟨r, S, h3, h4⟩ | ⟨h3, h4⟩
          · exact .inl ⟨r, S, h3, hk _ _ _ h4⟩
          · exact .inr ⟨fun hq => (h3 hq).mono fun _ _ h => hk _ _ _ h, fun hq => (h4 hq).imp fun _ h => hk _ _ _ h⟩
theorem Jd {ops:Array Oper}{K K':cY→AHeap→Prop}(hk:∀ e H,K e H→K' e H):∀ (l:List Oper) (e:cY) (H:AHeap),lR P md ops l e H K→lR P md ops l e H K'
 | [],e,H,h=>hk _ _ h
 | o :: l,e,H,h=>by
  unfold lR at h ⊢
  exact Gy (fun v H' _ h=>Jd hk l _ _ h) h
theorem GA {ops:Array Oper}{sp:List (Nat × Nat)}{n0:Nat}{K K':cY→AHeap→Prop}(hk:∀ e H,K e H→K' e H):∀ (l:List Oper) (i:Nat) (acc:List (Nat × List Nat)) (e:cY) (H:AHeap),
  iS P md ops sp n0 i l acc e H K→iS P md ops sp n0 i l acc e H K'
 | [],i,acc,e,H,h=>by unfold iS at h ⊢;exact hk _ _ h
 | o :: l,i,acc,e,H,h=>by
  unfold iS at h ⊢
  exact Gy (fun v H' _ h=>⟨h.1,GA hk l _ _ _ _ h.2⟩) h
theorem uL {n n':cY→AHeap→Prop}{Q Q':Exit→cY→AHeap→Prop}(hn:∀ e H,n e H→n' e H)(hq:∀ x e H,Q x e H→Q' x e H):∀ x e H,pC n Q x e H→pC n' Q' x e H:=by
 intro x e H h
 cases x<;>first|exact hn _ _ h|exact hq _ _ _ h
theorem ML {i:Nat}{Q Q':Exit→cY→AHeap→Prop}(hq:∀ x e H,Q x e H→Q' x e H):∀ x e H,Aq i Q x e H→Aq i Q' x e H:=by
 intro x e H h
 cases x<;>first|exact hq _ _ _ h|skip
 rename_i j
 rw [MM] at h ⊢
 split at h
 ·rename_i hj;rw [if_pos hj];exact hq _ _ _ h
 ·rename_i hj;rw [if_neg hj];exact hq _ _ _ h
theorem oV:∀ (x:Code) {Q Q':Exit→cY→AHeap→Prop} (hq:∀ x e H,Q x e H→Q' x e H) (e:cY) (H:AHeap),lT P c x Q e H→lT P c x Q' e H
 | .skip,Q,Q',hq,e,H,h=>hq _ _ _ h
 | .region id ops dr,Q,Q',hq,e,H,h=>by
  unfold lT at h ⊢
  cases dr with
  | false=>simp only [eM,if_false] at h ⊢;exact Jd (fun e H h=>hq _ _ _ h) _ _ _ h
  | true=>simp only [if_true] at h ⊢;exact GA (fun e H h=>hq _ _ _ h) _ _ _ _ _ h
 | .seq a b,Q,Q',hq,e,H,h=>by
  unfold lT at h ⊢
  exact oV a (uL (fun e H h=>oV b hq e H h) hq) e H h
 | .cond x a b,Q,Q',hq,e,H,h=>by
  unfold lT at h ⊢
  cases hv:eX e x<;>simp only [hv] at h ⊢<;>try (exact h.elim)
  exact ⟨fun ht=>oV a hq e H (h.1 ht),fun ht=>oV b hq e H (h.2 ht)⟩
 | .block id b,Q,Q',hq,e,H,h=>by
  unfold lT at h ⊢
  exact oV b (ML hq) e H h
 | .loop b,Q,Q',hq,e,H,h=>by
  unfold lT at h ⊢
  obtain ⟨I,h0,hI⟩:=h
  exact ⟨I,h0,fun k e' H' hi=>oV b (uL (fun _ _ h=>h) hq) _ _ (hI k e' H' hi)⟩
 | .exit id,Q,Q',hq,e,H,h=>hq _ _ _ h
 | .ret,Q,Q',hq,e,H,h=>hq _ _ _ h
 | .rangeFunc ..,Q,Q',hq,e,H,h=>h.elim
 | .scope ..,Q,Q',hq,e,H,h=>h.elim
 | .label ..,Q,Q',hq,e,H,h=>h.elim
 | .goto ..,Q,Q',hq,e,H,h=>h.elim
 | .refuse ..,Q,Q',hq,e,H,h=>h.elim
theorem eO {b:Code}{Q:Exit→cY→AHeap→Prop}{e:cY}{H:AHeap}{ι:Type}(I:ι→cY→AHeap→Prop)(μ:ι→Nat)(x0:ι)(h0:I x0 e H)
  (hs:∀ x e H,I x e H→lT P c b (pC (fun e' H'=>∃ x',μ x'<μ x∧I x' e' H') Q) e H):zG P c b Q e H:=by
 unfold zG lT
 refine ⟨fun k e H=>∃ x,μ x=k∧I x e H,⟨H,.refl H,_,x0,rfl,h0⟩,fun k e' H' ⟨x,hk,hx⟩=>oV b (uL (fun e'' H'' ⟨x',hlt,hx'⟩=>⟨H'',.refl _,_,hk ▸ hlt,x',rfl,hx'⟩) fun _ _ _ h=>h) _ _ (hs x e' H' hx)⟩
theorem A8 {b:Code}{Q:Exit→cY→AHeap→Prop}{e:cY}{H H':AHeap}(hg:Ghosts H H'){ι:Type}(I:ι→cY→AHeap→Prop)(μ:ι→Nat)(x0:ι)(h0:I x0 e H')
  (hs:∀ x e H,I x e H→lT P c b (pC (fun e' H'=>∃ H3,Ghosts H' H3∧∃ x',μ x'<μ x∧I x' e' H3) Q) e H):zG P c b Q e H:=by
 unfold zG lT
 refine ⟨fun k e H=>∃ x,μ x=k∧I x e H,⟨H',hg,_,x0,rfl,h0⟩,fun k e' H' ⟨x,hk,hx⟩=>oV b (uL (fun e'' H'' ⟨H3,hg3,x',hlt,hx'⟩=>⟨H3,hg3,_,hk ▸ hlt,x',rfl,hx'⟩) fun _ _ _ h=>h) _ _ (hs x e' H' hx)⟩
theorem aC {ops:Array Oper}{rest:List Oper}{e:cY}{dst:Option Tmp}{K:cY→AHeap→Prop}{f:FuncId}{args:List D}{H:AHeap}{r:D}(hp:Pure P f args r)(hcl:D.clL args=true)
  (h:lR P md ops rest (oW e dst r) H K):fB P md ops rest e dst K f args H:=by unfold fB;exact nG hp hcl h
theorem eR {ops:Array Oper}{rest:List Oper}{e:cY}{dst:Option Tmp}{K:cY→AHeap→Prop}{f:FuncId}{args args':List D}{H:AHeap}{r:D}(hp:Pure P f args' r)(ha:args.map (gX H)=args')(hcl:D.clL args'=true)(hf:r.flat=true)
  (h:lR P md ops rest (oW e dst r) H K):fB P md ops rest e dst K f args H:=by subst ha;unfold fB;exact BH hp hcl hf h
theorem sF {ops:Array Oper}{rest:List Oper}{e:cY}{dst:Option Tmp}{K:cY→AHeap→Prop}{f:FuncId}{args args':List D}{H H':AHeap}{r:D}(hp:Pure P f args' r)(ha:args.map (gX H)=args')(hcl:D.clL args'=true)
  (hz:eW (args.flatMap dO) H=H') (h:lR P md ops rest (oW e dst r) H' K):fB P md ops rest e dst K f args H:=by subst ha;subst hz;unfold fB;exact Kw hp hcl h
theorem l5 {ops:Array Oper}{rest:List Oper}{e:cY}{dst:Option Tmp}{K:cY→AHeap→Prop}{f:FuncId}{args:List D}{H:AHeap}{ty:TypeId}{sz:Nat}{es:List (List D)}(hp:Own P f args ty sz es)(hcl:D.clL args=true)
  (h:lR P md ops rest (oW e dst (.own H.next es.length)) (H.push H.next ⟨ty,sz,es,false⟩) K):fB P md ops rest e dst K f args H:=by unfold fB;exact M7 hp hcl h
end
end Go.Abs
end

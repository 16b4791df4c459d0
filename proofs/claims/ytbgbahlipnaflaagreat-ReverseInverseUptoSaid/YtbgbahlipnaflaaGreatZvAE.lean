/- The abstraction layer, part Q: the theorem on regions that d -/
import Derived.Test.YtbgbahlipnaflaaGreatZvAD
set_option linter.unusedVariables false
set_option linter.unusedSimpArgs false
section
namespace Go.Abs
theorem Fu {p:Nat->Bool}{i:Nat}:∀ (n:Nat),i<n->p i=true->(∀ k,i<k->k<n->p k=false)->iJ p n=some i
 | 0,h,_,_=>by omega
 | n+1,h,hp,hk=>by
  by_cases hi:i=n
  .subst hi;simp [iJ,hp]
  .simp only [iJ,hk n aD aD,fP,if_false];exact Fu n aD hp λk h1 h2=>hk k h1 aD
section
variable (md:Nat→Bool) (ops:Array Oper) (n0:Nat) (e0:Nat→D) (H0:AHeap) (Hs:Nat→AHeap) (vs:Nat→D) (Fs Ns:Nat→List Nat)
def oY (i:Nat):Option Tmp:=(ops[i]?).bind (·.dst)
def sL (i:Nat):Bool:=match ops[i]? with|some o=>oM md o|none=>false
def eS (S:Nat->Bool)(m:Nat):Nat->D:=λt =>
 match iJ (λk=>S k&&(oY ops k==some t)) m with
 | some k=>vs k
 | none=>e0 t
def HS (S:Nat->Bool)(m:Nat):AHeap where
 next:=n0+ops.size
 F:=λid=>H0.F id\/∃ k,k<m/\S k=true/\id∈Ns k/\(Hs (k+1)).F id
 get:=λid=>match iJ (λk=>S k&&(sL md ops k&&(Fs k).contains id)) m with
  | some k=>(Hs (k+1)).get id
  | none=>H0.get id
end
section
variable {P:Program} {md:Nat→Bool} {ops:Array Oper} {sp:List (Nat × Nat)} {n0:Nat} {es:Nat→Nat→D} {Hs:Nat→AHeap} {vs:Nat→D} {Fs Ns:Nat→List Nat}
theorem n4 (i:Nat):ops.toList[i]?=ops[i]?:=aE
theorem y4 (hr:Run P md ops sp n0 es Hs vs Fs Ns 0 ops.toList)(hn:(Hs 0).next=n0+ops.size):∀ i,i<=ops.size->es i=eS ops (es 0) vs (λ_=>true) i/\Hs i=HS md ops n0 (Hs 0) Hs Fs Ns (λ_=>true) i
 | 0,_=>⟨by funext t;rfl,by
   generalize hH:Hs 0=X at hn;obtain ⟨nx,al,g⟩:=X;simp only [HS,AHeap.mk.injEq];refine ⟨hn,funext λid=>propext ⟨.inl,λh=>h.elim (λh=>h) λ⟨k,hk,_⟩=>by omega⟩,funext λid=>rfl⟩⟩
 | i+1,hi=>by
  obtain ⟨ih1,ih2⟩:=y4 hr hn i aD;have hlt:i<ops.size:=aD;have ho:ops[i]?=some ops[i]:=bU hlt;obtain ⟨h1,hT⟩:=hr.step i ops[i] (by rw [n4,ho]);simp only [fE] at h1 hT;refine ⟨?_,?_⟩
  .rw [h1,ih1];funext t;simp only [eS,iJ,gW];have hd:oY ops i=ops[i].dst:=by simp [oY,ho]
   cases hdd:ops[i].dst with
   | none=>simp [oV,hd,hdd,eS]
   | some d =>
    by_cases ht:t=d
    .subst ht;simp [oV,hd,hdd]
    .have ht':¬ d=t:=λh=>ht h.symm;simp [oV,hd,hdd,ht,ht',eS]
  .have hself:=hT.ek;have hw:sL md ops i=oM md ops[i]:=by simp [sL,ho]
   have hget:∀ id,(Hs (i+1)).get id=if (sL md ops i&&(Fs i).contains id)=true then (Hs (i+1)).get id else (Hs i).get id:=by
    intro id;split
    .rfl
    .rename_i hc;by_cases hwr:sL md ops i=true
     .have hnc:id∉Fs i:=λh=>hc (by simp [hwr,h]);rw [hself];simp [xX,hnc]
     .rw [hT.gf (by rw [<- hw];simpa using hwr)]
   have hnext:(Hs (i+1)).next=n0+ops.size:=by rw [hself,ih2];rfl
   have halq:∀ id,(Hs (i+1)).F id↔(Hs i).F id\/(id∈Ns i/\(Hs (i+1)).F id):=λid=>by
    constructor
    .intro h;rw [hself] at h;exact h
    .intro h;rw [hself];exact h
   generalize hH:Hs (i+1)=X at hget hnext halq;obtain ⟨nx,al,g⟩:=X;simp only [HS,AHeap.mk.injEq];refine ⟨hnext,funext λid=>propext ?_,funext λid=>?_⟩
   .rw [show al id↔_ from halq id,ih2];simp only [HS];constructor
    .rintro ((h|⟨k,hk,_,hm,h⟩)|⟨hm,h⟩)
     .exact .inl h
     .exact .inr ⟨k,aD,trivial,hm,h⟩
     .exact .inr ⟨i,aD,trivial,hm,by rw [hH];exact h⟩
    .rintro (h|⟨k,hk,_,hm,h⟩)
     .exact .inl (.inl h)
     .by_cases hki:k=i
      .subst hki;rw [hH] at h;exact .inr ⟨hm,h⟩
      .exact .inl (.inr ⟨k,aD,trivial,hm,h⟩)
   .have:=hget id;simp only at this;rw [this,ih2];simp only [HS,iJ,gW];split
    .simp only [hH]
    .rfl
theorem t8 (h:yY md ops sp=true){i j:Nat}(a:i<j)(d:j<ops.size) :
  ((R0 ops.toList []).getD j 0).testBit i=true\/(OS ops (ops[i]' aD) ops[j]=false/\(Ks md (ops[i]' aD) ops[j]=false\/(i,j)∈sp)):=by
 unfold yY at h;simp only [cF,aV] at h;have c:=h j d;rw [bU d] at c;simp only [aM,cF,aV] at c;have b:=c.2 i a;rw [bU aD] at b;simp only [c8,aM,cZ,Av] at b;exact b
theorem Vr (h:yY md ops sp=true){j:Nat}{o:Oper}(c:ops[j]?=some o):∀ e∈o.after.toList,Region.binds .any e=true->e.on<j:=by
 have d:j<ops.size:=(tH.1 c).1;unfold yY at h;simp only [cF,aV] at h;have b:=h j d;rw [c] at b;simp only [aM,cF,c8,cZ,decide_eq_true_eq] at b;intro e f g;rcases b.1.1 e f with a|a
 .rw [g] at a;cases a
 .exact a
variable {S:Nat→Bool} {i:Nat}
def oT (S:Nat->Bool)(i:Nat):Nat->Bool:=λk=>k==i||S k
theorem NC {o:Op}(h:yW o=true):sV o=true:=by
 cases o<;>first|rfl|(simp [yW] at h;done)|exact h
theorem sE {md:Nat->Bool}{o:Oper}(h:oM md o=true):sV o.op=true:=by
 unfold oM at h;rw [c8] at h;rcases h with h|h
 .exact NC h
 .unfold HC at h;split at h
  .rename_i a;rw [a];rfl
  .cases h
theorem Bl {x y:Oper}(h:OS ops x y=false):(∀ t,x.dst=some t->t∉y.looksAt ops/\y.dst≠some t)/\(∀ t,y.dst=some t->t∉x.looksAt ops):=by
 have:=Oper.apart_spec (by simpa [OS] using h);grind
theorem Gs (e:yY md ops sp=true)(d:Pb ops S)(c:Pb ops (oT S i))(f:i<ops.size)(b:S i=false) :
  (∀ k,k<i->(((R0 ops.toList []).getD i 0).testBit k=true)->S k=true)/\(∀ k,i<k->k<ops.size->((R0 ops.toList []).getD k 0).testBit i=true->S k=false):=by
 refine ⟨λk hk hb=>?_,λk hk hk2 hb=>?_⟩
 .have:=Nq c i k (by simp [oT]) hb;simp only [oT,c8,beq_iff_eq] at this;grind
 .cases a:S k with
  | false=>rfl
  | true=>have:=Nq d k i a hb;rw [b] at this;cases this
theorem Mr (r:Run P md ops sp n0 es Hs vs Fs Ns 0 ops.toList)(A:(Hs 0).next=n0+ops.size)(o:yY md ops sp=true)(C:Pb ops S)(w:Pb ops (oT S i))(q:i<ops.size)(n:S i=false) :
  (∀ t∈(ops[i]).looksAt ops,eS ops (es 0) vs S ops.size t=es i t)/\gU (Fs i) (HS md ops n0 (Hs 0) Hs Fs Ns S ops.size) (Hs i):=by
 obtain ⟨y,x⟩:=Gs o C w q n;obtain ⟨E,D⟩:=y4 r A i aD;have v:∀ k,k<ops.size->oY ops k=(ops[k]?).bind (·.dst):=λk _=>rfl;obtain ⟨_,z⟩:=r.step i ops[i] (by rw [n4,bU q]);simp only [fE] at z;refine ⟨λt ht=>?_,λid e=>?_⟩
 .rw [E];simp only [eS,gW];have u:iJ (λk=>S k&&(oY ops k==some t)) ops.size=iJ (λk=>oY ops k==some t) i:=by
   rw [CM (p:=λk=>S k&&(oY ops k==some t)) i ops.size aD (λk g hk2=>?_)]
   .refine lU i λk g=>?_;cases c:(oY ops k==some t) with
    | false=>simp
    | true =>
     have j:k<ops.size:=aD;have m:ops[k].dst=some t:=by simpa [oY,bU j] using c
     rcases t8 o g q with h|⟨h,_⟩
     .simp [y k g h]
     .exact absurd ht ((Bl h).1 t m).1
   .by_cases l:k=i
    .subst l;simp [n]
    .cases c:(oY ops k==some t) with
     | false=>simp
     | true =>
      have m:ops[k].dst=some t:=by simpa [oY,bU hk2] using c
      rcases t8 o (aD:i<k) hk2 with h|⟨h,_⟩
      .simp [x k aD hk2 h]
      .exact absurd ht ((Bl h).2 t m)
  rw [u]
 .rw [D];have b:sV ops[i].op=true:=by
   cases B:sV ops[i].op with
   | true=>rfl
   | false=>rw [z.hz B] at e;cases e
  simp only [HS,gW];have u:iJ (λk=>S k&&(sL md ops k&&(Fs k).contains id)) ops.size=iJ (λk=>sL md ops k&&(Fs k).contains id) i:=by
   rw [CM (p:=λk=>S k&&(sL md ops k&&(Fs k).contains id)) i ops.size aD (λk g hk2=>?_)]
   .refine lU i λk g=>?_;cases c:(sL md ops k&&(Fs k).contains id) with
    | false=>simp
    | true =>
     have j:k<ops.size:=aD;simp only [aM,Av] at c;have a:oM md ops[k]=true:=by simpa [sL,bU j] using c.1
     rcases t8 o g q with h|⟨_,h|h⟩
     .simp [y k g h]
     .simp [Ks,b,sE a,a] at h
     .have d:=r.apart k i g (bY q);simp only [fE] at d;exact absurd e (d h id c.2)
   .by_cases l:k=i
    .subst l;simp [n]
    .cases c:(sL md ops k&&(Fs k).contains id) with
     | false=>simp
     | true =>
      simp only [aM,Av] at c;have a:oM md ops[k]=true:=by simpa [sL,bU hk2] using c.1
      rcases t8 o (aD:i<k) hk2 with h|⟨_,h|h⟩
      .simp [x k aD hk2 h]
      .simp [Ks,b,sE a,a] at h
      .have d:=r.apart i k aD (bY hk2);simp only [fE] at d;exact absurd c.2 (d h id e)
  rw [u]
theorem WQ (y:Run P md ops sp n0 es Hs vs Fs Ns 0 ops.toList)(H:(Hs 0).next=n0+ops.size)(x:yY md ops sp=true)(F:Pb ops S)(v:Pb ops (oT S i))(m:i<ops.size)(u:S i=false) :
  oV (eS ops (es 0) vs S ops.size) ops[i].dst (vs i)=eS ops (es 0) vs (oT S i) ops.size /\
  xX (HS md ops n0 (Hs 0) Hs Fs Ns S ops.size) (Hs (i+1)) (Fs i) (Ns i)=HS md ops n0 (Hs 0) Hs Fs Ns (oT S i) ops.size:=by
 obtain ⟨I,C⟩:=Gs x F v m u;obtain ⟨_,E⟩:=y.step i ops[i] (by rw [n4,bU m]);simp only [fE] at E;have B:=(Mr y H x F v m u).2;have j:ops[i]?=some ops[i]:=bU m;refine ⟨?_,?_⟩
 .funext t;by_cases q:ops[i].dst=some t
  .have g:iJ (λk=>oT S i k&&(oY ops k==some t)) ops.size=some i:=by
    refine Fu ops.size m (by simp [oT,oY,j,q]) λk e c=>?_;cases r:(oY ops k==some t) with
    | false=>simp
    | true =>
     have z:ops[k].dst=some t:=by simpa [oY,bU c] using r
     rcases t8 x e c with h|⟨h,_⟩
     .have a:(k==i)=false:=by simp;omega
      simp [oT,a,C k e c h]
     .exact absurd z ((Bl h).1 t q).2
   simp only [eS,g,oV,q,if_true]
  .have g:iJ (λk=>oT S i k&&(oY ops k==some t)) ops.size=iJ (λk=>S k&&(oY ops k==some t)) ops.size:=by
    refine lU _ λk e=>?_;by_cases a:k=i
    .subst a;have:(oY ops k==some t)=false:=by simp [oY,j];exact q
     simp [this]
    .have:(k==i)=false:=by simpa using a
     simp [oT,this]
   simp only [eS,g];cases A:ops[i].dst with
   | none=>rfl
   | some d =>
    have:¬ t=d:=λh=>q (by rw [A,h]);simp only [oV,this,if_false];rfl
 .simp only [xX,HS,AHeap.mk.injEq,true_and];refine ⟨funext λid=>propext ?_,funext λid=>?_⟩
  .constructor
   .rintro ((h|⟨k,e,n,o,h⟩)|⟨o,h⟩)
    .exact .inl h
    .exact .inr ⟨k,e,by simp [oT,n],o,h⟩
    .exact .inr ⟨i,m,by simp [oT],o,h⟩
   .rintro (h|⟨k,e,n,o,h⟩)
    .exact .inl (.inl h)
    .by_cases a:k=i
     .subst a;exact .inr ⟨o,h⟩
     .have:(k==i)=false:=by simpa using a
      exact .inl (.inr ⟨k,e,by simpa [oT,this] using n,o,h⟩)
  .by_cases w:oM md ops[i]=true
   .by_cases b:id∈Fs i
    .rw [if_pos b];have g:iJ (λk=>oT S i k&&(sL md ops k&&(Fs k).contains id)) ops.size=some i:=by
      refine Fu ops.size m (by simp [oT,sL,j,w,b]) λk e c=>?_;cases r:(sL md ops k&&(Fs k).contains id) with
      | false=>simp
      | true =>
       simp only [aM,Av] at r;have p:oM md ops[k]=true:=by simpa [sL,bU c] using r.1
       rcases t8 x e c with h|⟨_,h|h⟩
       .have a:(k==i)=false:=by simp;omega
        simp [oT,a,C k e c h]
       .simp [Ks,sE w,sE p,p] at h
       .have s:=y.apart i k e (bY c);simp only [fE] at s;exact absurd r.2 (s h id b)
     rw [g]
    .rw [if_neg b];have g:iJ (λk=>oT S i k&&(sL md ops k&&(Fs k).contains id)) ops.size=iJ (λk=>S k&&(sL md ops k&&(Fs k).contains id)) ops.size:=by
      refine lU _ λk e=>?_;by_cases a:k=i
      .subst a;simp [b]
      .have:(k==i)=false:=by simpa using a
       simp [oT,this]
     rw [g]
   .have g:iJ (λk=>oT S i k&&(sL md ops k&&(Fs k).contains id)) ops.size=iJ (λk=>S k&&(sL md ops k&&(Fs k).contains id)) ops.size:=by
     refine lU _ λk e=>?_;by_cases a:k=i
     .subst a;have:sL md ops k=false:=by simp [sL,j];simpa using w
      simp [this]
     .have:(k==i)=false:=by simpa using a
      simp [oT,this]
    rw [g];by_cases b:id∈Fs i
    .rw [if_pos b,E.gf (bY w),<- B id b];rfl
    .rw [if_neg b]
theorem Du (hr:Run P md ops sp n0 es Hs vs Fs Ns 0 ops.toList){id:Nat}:∀ (j k:Nat),k<=j->j<=ops.size->(Hs k).F id->(Hs j).F id
 | 0,k,hk,_,h=>by rw [(aD:(0:Nat)=k)];exact h
 | j+1,k,hk,hj,h=>by
  by_cases he:k=j+1
  .rw [<- he];exact h
  .have ih:=Du hr j k aD aD h;obtain ⟨_,hT⟩:=hr.step j ops[j] (by rw [n4,bU aD]);simp only [fE] at hT;rw [hT.ek];exact .inl ih
theorem VR (a:Run P md ops sp n0 es Hs vs Fs Ns 0 ops.toList)(s:i<ops.size)(j:S i=false):∀ id∈Ns i,¬ (HS md ops n0 (Hs 0) Hs Fs Ns S ops.size).F id:=by
 intro id g;obtain ⟨_,m⟩:=a.step i ops[i] (by rw [n4,bU s]);simp only [fE] at m;obtain ⟨n,l⟩:=m.new id g;rintro (h|⟨k,r,c,p,h⟩)
 .exact n (Du a i 0 aD aD h)
 .obtain ⟨_,b⟩:=a.step k ops[k] (by rw [n4,bU r]);simp only [fE] at b;obtain ⟨o,d⟩:=b.new id p;have f:k≠i:=λe=>by subst e;rw [j] at c;cases c
  rcases Nat.lt_or_gt_of_ne f with q|t
  .exact n (Du a i (k+1) aD aD h)
  .rcases l with l|⟨l,u⟩
   .rcases d with d|⟨d,_⟩<;>omega
   .exact o (Du a k (i+1) aD aD u)
end
end Go.Abs
end
section
namespace Go.Abs
def Came (n:Nat)(M0:Nat->Prop)(H0:AHeap)(σ0:Nat->Option Ow)(w0:World)(K:(Nat->D)->AHeap->Prop)(a:Act)(w:World):Prop :=
 ∃ e H σ,K e H/\St n M0 H σ w e a/\Stp σ0 w0 σ w/\Keeps (dV M0 H0 σ0) σ0 H0.F w0 (dV M0 H σ) σ H.F w
theorem Came.mono {n:Nat}{M0:Nat->Prop}{H0:AHeap}{σ0:Nat->Option Ow}{w0:World}{K K':(Nat->D)->AHeap->Prop}{a:Act}{w:World}(h:Came n M0 H0 σ0 w0 K a w)
 (hk:∀ e H,K e H->K' e H):Came n M0 H0 σ0 w0 K' a w:=let ⟨e,H,σ,a,b⟩:=h;⟨e,H,σ,hk _ _ a,b⟩
theorem Came.trans {n:Nat}{M0:Nat->Prop}{H0 H1:AHeap}{σ0 σ1:Nat->Option Ow}{w0 w1:World}{K:(Nat->D)->AHeap->Prop}{a:Act}{w:World}
  (hs:Stp σ0 w0 σ1 w1) (hk:Keeps (dV M0 H0 σ0) σ0 H0.F w0 (dV M0 H1 σ1) σ1 H1.F w1) (h:Came n M0 H1 σ1 w1 K a w):Came n M0 H0 σ0 w0 K a w :=
 let ⟨e,H,σ,a,b,c,d⟩:=h;⟨e,H,σ,a,b,hs.trans c,hk.trans d⟩
section
variable {P:Program} {md:Nat→Bool} {n:Nat} {M0:Nat→Prop}
theorem Rel.c5 {H:AHeap}{σ:Nat->Option Ow}{w:World}(h:Rel M0 H σ w){m:Nat}(hm:H.next<=m):Rel M0 { H with next:=m } σ w :=
 ⟨h.cm,λid hid=>dE (h.ce id hid) hm,λid k hk=>h.am id k hk,h.inj,h.lt,h.m0⟩
theorem StepC.mono {ops:Array Oper}{Q:Exit->Act->World->Prop}{o:Oper}{K K':Act->World->Prop}{a:Act}{w:World}(h:∀ a w,K a w->K' a w)(b:StepC P ops Q o K a w):StepC P ops Q o K' a w:=by
 unfold StepC at *;split
 .rename_i c;rw [if_pos c] at b;exact b.imp (Oper.wp_mono h) id
 grind
def oU (P:Program)(md:Nat->Bool)(ops:Array Oper):List Oper->(Nat->D)->AHeap->((Nat->D)->AHeap->Prop)->Prop
 | [],e,H,K=>K e H
 | o :: rest,e,H,K=>rF P md none H.next ops e o H λv H' _=>oU P md ops rest (oV e o.dst v) H' K
theorem KI {ops:Array Oper}{Q:Exit->Act->World->Prop}:∀ (l:List Oper) (e:Nat->D) (H:AHeap) (K:(Nat->D)->AHeap->Prop),oU P md ops l e H K->(∀ o∈l,sY n o.dst=true) ->
  ∀ (σ:Nat->Option Ow) (w:World) (a:Act),St n M0 H σ w e a->(∀ a' w',Came n M0 H σ w K a' w'->Q .normal a' w')->wpList P ops Q l a w
 | [],e,H,K,h,hd,σ,w,a,hS,hQ=>wpList_nil (hQ a w ⟨e,H,σ,h,hS,.refl _ _,.refl _ _ _ _⟩)
 | o :: l,e,H,K,h,hd,σ,w,a,hS,hQ=>by
  unfold oU at h;have hs:=Bo (Q:=Q) h hS (λhn=>nT _ (hS.b0.ce _ hn)) (hd o aE);have:=StepC.mono (K':=wpList P ops Q l) (λa' w' ⟨v,H',F,σ',hk,hS',hst,hkp⟩ =>
   KI l _ _ _ hk (λo' ho'=>hd o' (iw ho')) σ' w' a' hS' λa'' w'' hc=>hQ a'' w'' (hc.trans hst hkp)) hs
  unfold StepC at this;unfold wpList;exact this
theorem ZO {ops:Array Oper}{a:Nat->D}{vs:Nat->D}{S T:Nat->Bool}{m:Nat}(h:∀ k,k<m->S k=T k):eS ops a vs S m=eS ops a vs T m:=by
 funext t;unfold eS;rw [lU (p:=λk=>S k&&(oY ops k==some t)) (q:=λk=>T k&&(oY ops k==some t)) m λk hk=>by rw [h k hk]]
theorem Vd {ops:Array Oper}{c:Nat}{f:AHeap}{e:Nat->AHeap}{a d:Nat->List Nat}{S T:Nat->Bool}{m:Nat}(h:∀ k,k<m->S k=T k):HS md ops c f e a d S m=HS md ops c f e a d T m:=by
 unfold HS;congr 1
 .funext b;grind
 .funext b;rw [lU (p:=λk=>S k&&(sL md ops k&&(a k).contains b)) (q:=λk=>T k&&(sL md ops k&&(a k).contains b)) m λk hk=>by rw [h k hk]]
def xA (S:Nat->Bool):Nat->Nat
 | 0=>0
 | m+1=>(if S m then 0 else 1)+xA S m
theorem RJ {S:Nat->Bool}:∀ {m:Nat},xA S m=0->∀ k,k<m->S k=true
 | 0,_,k,hk=>by omega
 | m+1,h,k,hk=>by
  simp only [xA] at h;by_cases hk':k=m
  .subst hk';cases hS:S k<;>simp [hS] at h ⊢
  .exact RJ (m:=m) aD k aD
theorem Km {S T:Nat->Bool}:∀ {m:Nat},(∀ k,k<m->S k=T k)->xA S m=xA T m
 | 0,_=>rfl
 | m+1,h=>by simp only [xA,h m aD,Km (m:=m) λk hk=>h k aD]
theorem U1 {S:Nat->Bool}{i:Nat}(a:S i=false):∀ {m:Nat},i<m->xA (oT S i) m+1=xA S m
 | 0,h=>by omega
 | m+1,h=>by
  simp only [xA];by_cases hi:i=m
  .subst hi;have h1:oT S i i=true:=by simp [oT]
   have b:xA (oT S i) i=xA S i:=Km λk hk=>by
    have:(k==i)=false:=by simp;omega
    simp [oT,this]
   grind
  .have h1:oT S i m=S m:=by
    have:(m==i)=false:=by simp;omega
    simp [oT,this]
   have:=U1 a (m:=m) aD;rw [h1];omega
theorem TE {ops:Array Oper}{sp:List (Nat × Nat)}{id:Nat}{e:Nat->D}{H:AHeap}{σ:Nat->Option Ow}{w:World}{a:Act}{K:(Nat->D)->AHeap->Prop}{Q:Exit->Act->World->Prop}
  (hm:P.follows .mixedOrders=true) (hs:yY md ops sp=true) (hd:∀ o∈ops.toList,sY n o.dst=true)
  (h:lG P md ops sp H.next 0 ops.toList [] e { H with next:=H.next+ops.size } K) (hS:St n M0 H σ w e a) (hQ:∀ a' w',Came n M0 H σ w K a' w'->Q .normal a' w') :
  (Code.region id ops true).wp P Q a w:=by
 refine wp_region_any hm ?_;obtain ⟨c0,a3,a4⟩:=hS.b0.drew;have b9:=c0.c5 (m:=H.next+ops.size) aD;have b8:St n M0 { H with next:=H.next+ops.size } σ w.drew e a:=⟨b9,λt=>(hS.dw t).q a4,hS.defers,hS.size⟩;obtain ⟨es,u,vs,V,Ns,he,U,hK,d,_⟩:=Nz (nn:=H.next+ops.size) ops.toList 0 [] e _ K h (λi hi=>hS.b0.ce i hi) rfl aE;simp only [fE,g8] at hK;have hn:(u 0).next=H.next+ops.size:=by rw [U]
 have b2:∀ (g:Nat) (c:Array Bool) (a':Act) (w':World),c.size=ops.size->xA (λk=>c.getD k false) ops.size<=g->Pb ops (λk=>c.getD k false) ->
   (∃ σ',St n M0 (HS md ops H.next (u 0) u V Ns (λk=>c.getD k false) ops.size) σ' w' (eS ops (es 0) vs (λk=>c.getD k false) ops.size) a'/\Stp σ w σ' w' /\
    Keeps (dV M0 H σ) σ H.F w (dV M0 (HS md ops H.next (u 0) u V Ns (λk=>c.getD k false) ops.size) σ') σ' (HS md ops H.next (u 0) u V Ns (λk=>c.getD k false) ops.size).F w') ->
   wpAny P .any ops Q g c a' w':=by
  intro g;induction g with
  | zero =>
   intro c a' w' hl hc hD ⟨σ',M,q,I⟩;have l:=RJ (S:=λk=>c.getD k false) (m:=ops.size) aD;refine ⟨?_,?_⟩
   .unfold Region.ready;simp_all
   .refine hQ a' w' ⟨es ops.size,u ops.size,σ',hK,?_,q,?_⟩
    .obtain ⟨r1,r2⟩:=y4 d hn ops.size (bC _);rw [r1,r2,ZO (T:=λk=>c.getD k false) λk s=>(l k s).symm,Vd (T:=λk=>c.getD k false) λk s=>(l k s).symm];exact M
    .obtain ⟨r1,r2⟩:=y4 d hn ops.size (bC _);rw [r2,Vd (T:=λk=>c.getD k false) λk s=>(l k s).symm];exact I
  | succ g ih =>
   intro c a' w' hl hc hD ⟨σ',M,q,I⟩;have C:∀ i,i∈Region.ready .any ops c->i<ops.size/\c.getD i false=false/\∀ o,ops[i]?=some o->∀ B∈o.after.toList,Region.binds .any B=true->c.getD B.on false=true:=by
    intro i hi;unfold Region.ready at hi;simp only [d8,aV,aM,cZ] at hi;obtain ⟨h1,h2,h3⟩:=hi;refine ⟨h1,?_,λo E B y hb=>?_⟩
    .simp only [nG] at h2 ⊢;rw [bU aD] at h2 ⊢;simpa using h2
    .rw [E] at h3;simp only [d7,Option.getD_some,Array.all_eq_true_iff_forall_mem] at h3;have:=h3 B (bY y);rw [hb] at this;simpa using this
   refine ⟨λhnil=>?_,λi hi=>?_⟩
   .-- nothing is ready: all is done
    have l:∀ k,k<ops.size->c.getD k false=true:=by
     intro k;induction k using Nat.strongRecOn with
     | _ k ihk =>
      intro s;cases Z:c.getD k false with
      | true=>rfl
      | false =>
       exfalso;have R:k∈Region.ready .any ops c:=by
        unfold Region.ready;simp only [d8,aV,aM,cZ];refine ⟨s,?_,?_⟩
        .simp only [nG] at Z ⊢;rw [bU aD] at Z ⊢;simpa using Z
        .have E:ops[k]?=some ops[k]:=bU s;rw [E];simp only [d7,Option.getD_some,Array.all_eq_true_iff_forall_mem];intro B y;cases hb:Region.binds .any B with
         | false=>simp
         | true =>
          have b3:=Vr hs E B (bY y) hb;simp [ihk B.on b3 aD]
       rw [hnil] at R;cases R
    have:=(ih c a' w' hl (by
     have:xA (λk=>c.getD k false) ops.size=xA (λ_=>true) ops.size:=Km l;have h0:∀ m,xA (λ_=>true) m=0:=λm=>by induction m with
      | zero=>rfl
      | succ m ih=>simp [xA,ih]
     rw [this,h0];omega) hD ⟨σ',M,q,I⟩)
    cases g with
    | zero=>exact this.2
    | succ f=>exact this.1 hnil
   .obtain ⟨x,A,b5⟩:=C i hi;have E:ops[i]?=some ops[i]:=bU x;have a2:Pb ops (oT (λk=>c.getD k false) i):=by
     intro j o hj z B y hb;simp only [oT,c8,beq_iff_eq] at z;simp only [oT,c8];rcases z with rfl|z
     .exact .inr (b5 o hj B y hb)
     .exact .inr (hD j o hj z B y hb)
    have r:(λk=>(c.setIfInBounds i true).getD k false)=oT (λk=>c.getD k false) i:=by
     funext k;simp only [oT,nG,Array.getElem?_setIfInBounds];by_cases a0:k=i
     .subst a0;simp [hl,x]
     .have:¬ i=k:=λh=>a0 h.symm;have h2:(k==i)=false:=by simpa using a0
      simp [this,h2]
    obtain ⟨a6,b6⟩:=Mr d hn hs hD a2 x A;obtain ⟨b7,a7⟩:=WQ d hn hs hD a2 x A;obtain ⟨_,hT⟩:=d.step i ops[i] (by rw [n4,E]);simp only [fE] at hT;have Y:=VR d (S:=λk=>c.getD k false) x A;have b1:∀ id∈Ns i,id<H.next+ops.size:=λid J=>by rcases (hT.new id J).2 with h|⟨h,_⟩<;>omega
    have O:¬ (HS md ops H.next (u 0) u V Ns (λk=>c.getD k false) ops.size).F (H.next+i):=by
     simp only [HS];rintro (h|⟨k,s,a9,b4,_⟩)
     .rw [U] at h;have:=hS.b0.ce _ h;omega
     .obtain ⟨_,a8⟩:=d.step k ops[k] (by rw [n4,bU s]);simp only [fE] at a8;have:k=i:=by rcases (a8.new _ b4).2 with h|⟨h,_⟩<;>omega
      subst this;rw [A] at a9;cases a9
    have W:=hT.any _ _ a6 b6 (by simp only [HS];omega) O (λid J=>⟨by simp only [HS];exact b1 id J,Y id J⟩);have hc:=Bo (Q:=Q) W M O (hd ops[i] aE) (λm hm=>by cases hm;simp only [HS];omega);have a1:StepC P ops Q ops[i] (wpAny P .any ops Q g (c.setIfInBounds i true)) a' w':=by
     refine StepC.mono (λa'' w'' ⟨v,H',F,σ'',⟨hv,c1⟩,b0,X,a5⟩=>?_) hc;subst hv;subst c1;refine ih _ a'' w'' (bY hl) ?_ (by rw [r];exact a2) ⟨σ'',?_,q.trans X,?_⟩
     .rw [r];have:=U1 (S:=λk=>c.getD k false) A x;omega
     .rw [r,<- b7,<- a7];exact b0
     .rw [r,<- a7];exact I.trans a5
    unfold wpOp;rw [E];exact a1
 refine b2 ops.size _ a _ aE ?_ ?_ ⟨σ,?_,a3,?_⟩
 .have:∀ S:Nat->Bool,∀ m,xA S m<=m:=λS m=>by
   induction m with
   | zero=>simp [xA]
   | succ m ih=>simp only [xA];split<;>omega
  exact this _ _
 .intro j o E z;exfalso;have hj:j<ops.size:=(tH.1 E).1;simp [hj] at z
 .have L:(λk=>(Array.replicate ops.size false).getD k false)=λ_=>false:=by
   funext k;by_cases s:k<ops.size<;>simp [s]
  have G:∀ (p:Nat->Bool) m,iJ (λk=>false&&p k) m=none:=λp m=>by
   induction m with
   | zero=>rfl
   | succ m ih=>simp only [iJ,GT,fP,if_false];exact ih
  have e1:eS ops (es 0) vs (λk=>(Array.replicate ops.size false).getD k false) ops.size=e:=by
   rw [L];funext t;simp only [eS,G (λk=>oY ops k==some t)];rw [he]
  have e2:HS md ops H.next (u 0) u V Ns (λk=>(Array.replicate ops.size false).getD k false) ops.size={ H with next:=H.next+ops.size }:=by
   rw [L];simp only [HS,AHeap.mk.injEq,true_and];refine ⟨funext λid=>propext ⟨λh=>h.elim (λh=>by rw [U] at h;exact h) λ⟨_,_,h,_⟩=>(by cases h),λh=>.inl (by rw [U];exact h)⟩,funext λid=>?_⟩;rw [G (λk=>sL md ops k&&(V k).contains id),U]
  rw [e1,e2];exact b8
 .have L:(λk=>(Array.replicate ops.size false).getD k false)=λ_=>false:=by
   funext k;by_cases s:k<ops.size<;>simp [s]
  have G:∀ (p:Nat->Bool) m,iJ (λk=>false&&p k) m=none:=λp m=>by
   induction m with
   | zero=>rfl
   | succ m ih=>simp only [iJ,GT,fP,if_false];exact ih
  have e2:HS md ops H.next (u 0) u V Ns (λk=>(Array.replicate ops.size false).getD k false) ops.size={ H with next:=H.next+ops.size }:=by
   rw [L];simp only [HS,AHeap.mk.injEq,true_and];refine ⟨funext λid=>propext ⟨λh=>h.elim (λh=>by rw [U] at h;exact h) λ⟨_,_,h,_⟩=>(by cases h),λh=>.inl (by rw [U];exact h)⟩,funext λid=>?_⟩;rw [G (λk=>sL md ops k&&(V k).contains id),U]
  rw [e2];exact a4
end
end Go.Abs
end
section
namespace Go.Abs
abbrev eF:=Nat->D
structure Cfg where
 own:Nat->Bool
 sp:Nat->List (Nat × Nat)
def JX (H:AHeap)(id i off:Nat)(ty sz:Nat):AHeap :=
 match H.get id with
 | some k=>(H.put id { k with P:=k.P.set i ((k.P[i]?.getD []).set off (.own H.next 0)) }).push H.next ⟨ty,sz,[],false⟩
 | none=>H
def AHeap.drop (H:AHeap)(id:Nat):AHeap:=⟨H.next,H.F,λi=>if i=id then none else H.get i⟩
def CT (H:AHeap)(id i off q hi:Nat):AHeap :=
 match H.get id,H.get q with
 | some k,some kq=>(((H.drop q).push H.next ⟨kq.ty,kq.Y,kq.P.take hi,false⟩).put id { k with P:=k.P.set i ((k.P[i]?.getD []).set off (.own H.next hi)) })
 | _,_=>H
inductive Ghosts:AHeap->AHeap->Prop
 | refl (H:AHeap):Ghosts H H
 | trunc {H H1:AHeap} (h:Ghosts H H1) (id i off q hi:Nat) (k kq:Blk) (c:UN) (hk:H1.get id=some k) (hf:k.fz=false) (hc:k.P[i]?=some c) (hq:H1.get q=some kq) (hn:c[off]?=some (.win q kq.P.length 0 hi)) (hqf:kq.fz=false) (hne:id≠q):Ghosts H (CT H1 id i off q hi)
 | step {H H1:AHeap} (h:Ghosts H H1) (id i off ty sz:Nat) (k:Blk) (c:UN) (hk:H1.get id=some k) (hf:k.fz=false) (hc:k.P[i]?=some c) (hn:c[off]?=some .nil):Ghosts H (JX H1 id i off ty sz)
inductive GhE:eF->AHeap->eF->AHeap->Prop
 | gh {e:eF} {H H':AHeap} (h:Ghosts H H'):GhE e H e H'
 | frz {e e1:eF} {H H1:AHeap} (h:GhE e H e1 H1) (t id n:Nat) (k:Blk) (he:e1 t=.own id n) (hk:H1.get id=some k) (hn:k.P.length=n):GhE e H (oV e1 (some t) (.list k.P)) (H1.frz id)
def tJ (next:eF->AHeap->Prop)(Q:Exit->eF->AHeap->Prop):Exit->eF->AHeap->Prop
 | .normal,e,H=>next e H
 | ex,e,H=>Q ex e H
def Da (id:Nat)(Q:Exit->eF->AHeap->Prop):Exit->eF->AHeap->Prop
 | .exit id',e,H=>if id'=id then Q .normal e H else Q (.exit id') e H
 | ex,e,H=>Q ex e H
def pP (P:Program)(c:Cfg):Code->(Exit->eF->AHeap->Prop)->eF->AHeap->Prop
 | .skip,Q,e,H=>Q .normal e H
 | .region id ops dr,Q,e,H =>
  if dr then lG P c.own ops (c.sp id) H.next 0 ops.toList [] e { H with next:=H.next+ops.size } (Q .normal)
  else oU P c.own ops ops.toList e H (Q .normal)
 | .seq a b,Q,e,H=>pP P c a (tJ (pP P c b Q) Q) e H
 | .cond x a b,Q,e,H=>match fS e x with
  | .bool t=>(t=true->pP P c a Q e H)/\(t=false->pP P c b Q e H)
  | _=>False
 | .block id b,Q,e,H=>pP P c b (Da id Q) e H
 | .loop b,Q,e,H=>∃ I:Nat->eF->AHeap->Prop,(∃ e' H',GhE e H e' H'/\∃ k,I k e' H')/\∀ k e' H',I k e' H'->pP P c b (tJ (λe'' H''=>∃ e3 H3,GhE e'' H'' e3 H3/\∃ k',k'<k/\I k' e3 H3) Q) e' H'
 | .exit id,Q,e,H=>Q (.exit id) e H
 | .ret,Q,e,H=>Q .ret e H
 | _,_,_,_=>False
def rB (c:Cfg)(n:Nat):Code->Bool
 | .region id ops dr=>(ops.toList.all λo=>sY n o.dst)&&(!dr||yY c.own ops (c.sp id))
 | .seq a b=>rB c n a&&rB c n b
 | .cond _ a b=>rB c n a&&rB c n b
 | .block _ b=>rB c n b
 | .loop b=>rB c n b
 | _=>true
section
variable {P:Program} {c:Cfg} {n:Nat} {M0:Nat→Prop}
theorem jL {x:Code}{Q Q':Exit->Act->World->Prop}{a:Act}{w:World}(h:x.wp P Q a w)(hq:∀ e a w,Q e a w->Q' e a w):x.wp P Q' a w:=wp_mono h hq
theorem gY {p:Nat->Prop}(h:∃ k,p k):∃ k,p k/\∀ j,j<k->¬ p j:=by
 obtain ⟨k,hk⟩:=h;induction k using Nat.strongRecOn with
 | _ k ih =>
  grind
def Vf (n:Nat)(M0:Nat->Prop)(H0:AHeap)(σ0:Nat->Option Ow)(w0:World)(Q:Exit->eF->AHeap->Prop)(ex:Exit)(a:Act)(w:World):Prop:=Came n M0 H0 σ0 w0 (Q ex) a w
theorem zM {sz:Nat}(d:D)(off:Nat)(c:UN):∀ (es:UE) (i:Nat),(∀ c∈es,c.length=sz)->es[i]?=some c->off<sz->(es.set i (c.set off d)).flatten=es.flatten.set (i * sz+off) d
 | [],i,_,h,_=>by simp at h
 | a :: es,0,hl,h,ho=>by
  simp at h;subst h;have:=hl a aE;simp only [xH,fJ,Nat.zero_mul,fE];rw [List.set_append_left _ _ aD]
 | a :: es,i+1,hl,h,ho=>by
  have ha:=hl a aE;simp at h;have ih:=zM d off c es i (λc hc=>hl c (iw hc)) h ho;simp only [FX,fJ,ih];rw [nU _ _ (by rw [Nat.add_mul];omega)];congr 2;rw [ha,Nat.add_mul];omega
theorem Rq {H:AHeap}{σ:Nat->Option Ow}{w:World}(B:Rel M0 H σ w){f i a ty sz:Nat}{k:Blk}{m:UN}(z:H.get f=some k)(X:k.fz=false)(r:k.P[i]?=some m)(hn:m[a]?=some .nil) :
  ∃ σ',Rel M0 (JX H f i a ty sz) σ' w/\Stp σ w σ' w/\Keeps (dV M0 H σ) σ H.F w (dV M0 (JX H f i a ty sz) σ') σ' (JX H f i a ty sz).F w:=by
 have A:¬ H.F H.next:=λh=>nT _ (B.ce _ h);have I:H.F f:=aY λhn=>by rw [(B.cm f hn).2] at z;cases z
 have y:f≠H.next:=λh=>A (h ▸ I);obtain ⟨S,R,M⟩:=Rel.push B H.next A (w':=w) rfl rfl rfl (bC _) (λ_ _=>rfl) ⟨ty,sz,[],false⟩ ⟨0,.slice none 0 0,sz,ty⟩ (λb hb=>by simp [Ow.block,Value.ownBlock] at hb) rfl rfl rfl (λc r=>by simp at r) []
  ⟨by simp,.inl ⟨rfl,rfl⟩⟩ aE ⟨rfl,λj u d hu=>by simp at hu⟩
 obtain ⟨o,U,l⟩:=B.am f k z;obtain ⟨N,t,C,v⟩:=l.row;have G:(H.push H.next ⟨ty,sz,[],false⟩).get f=some k:=by simp [AHeap.push,y,z]
 have E:(λi=>if i=H.next then some (⟨0,.slice none 0 0,sz,ty⟩:Ow) else σ i) f=some o:=by simp [y,U]
 have n:=l.H m (aL r);have g:a<o.H:=by rw [<- n];exact (aQ.1 hn).1
 have p:∀ c∈k.P.set i (m.set a (.own H.next 0)),c.length=o.H:=λc K=>by
  rcases oL K with h|h
  .exact l.H c h
  grind
 have J:=zM (D.own H.next 0) a m k.P i l.H r g;obtain ⟨Q,P,O⟩:=Rel.put S G X E { k with P:=k.P.set i (m.set a (.own H.next 0)) } o ⟨rfl,rfl,rfl,bC _,λ_ _ _=>rfl⟩ (λb hb=>.inl hb) (.inl rfl) (by simp [l.ah]) l.ty l.Y p N (bY t) C (by
   have e:=v.q M;simp only;rw [J];refine ⟨by simpa using e.len,λj u d hu q=>?_⟩;rw [dL] at q;split at q
   .rename_i V;split at q
    .cases q
     have x:k.P.flatten[j]?=some .nil:=by
      rw [<- V,oC k.P i m l.H r a g];exact hn
     have T:=e.Z j u _ hu x;cases T
     exact .own _ _ _ (.inl rfl) rfl λo' ho'=>by simp at ho';subst ho';exact .inr ⟨rfl,rfl⟩
    .cases q
   .exact e.Z j u d hu q)
 have W:JX H f i a ty sz=(H.push H.next ⟨ty,sz,[],false⟩).put f { k with P:=k.P.set i (m.set a (.own H.next 0)) }:=by
  simp only [JX,z,r,Option.getD_some];unfold AHeap.push AHeap.put;grind
 rw [W];exact ⟨_,Q,R.trans P,M.trans O⟩
theorem EY {sz:Nat}:∀ (es:UE) (n:Nat),(∀ c∈es,c.length=sz)->(es.take n).flatten=es.flatten.take (n * sz)
 | [],n,_=>by simp
 | a :: es,0,_=>by simp
 | a :: es,n+1,h=>by
  have ha:=h a aE;rw [vL,fJ,fJ,EY es n λc hc=>h c (iw hc),Nat.add_mul,Nat.one_mul,Nat.add_comm,<- ha,List.take_length_add_append]
theorem Vo {H:AHeap}{σ:Nat->Option Ow}{w:World}(hR:Rel M0 H σ w){q hi n:Nat}{kq:Blk}{oq:Ow}(hq:H.get q=some kq)(hqf:kq.fz=false)(hoq:σ q=some oq)(hn:¬ H.F n){v:Value}(hh:hi<=kq.P.length)(hv:WV oq v kq.P.length 0 hi) :
  let σ':Nat->Option Ow:=λi=>if i=n then some ⟨hi,v,oq.H,oq.ty⟩ else if i=q then none else σ i
  Rel M0 ((H.drop q).push n ⟨kq.ty,kq.Y,kq.P.take hi,false⟩) σ' w/\Stp σ w σ' w/\Keeps (dV M0 H σ) σ H.F w (dV M0 ((H.drop q).push n ⟨kq.ty,kq.Y,kq.P.take hi,false⟩) σ') σ' ((H.drop q).push n ⟨kq.ty,kq.Y,kq.P.take hi,false⟩).F w:=by
 intro σ';have hqal:H.F q:=aY λh=>by rw [(hR.cm q h).1] at hoq;cases hoq
 have hqn:q≠n:=λe=>hn (e ▸ hqal);have hblk:∀ b,v.ownBlock=some b->oq.block=some b:=λb hb=>by
  rcases hv with ⟨_,rfl,_⟩|⟨b',cap,h1,h2,rfl⟩
  .simp [Value.ownBlock] at hb
  .simp only [Value.ownBlock] at hb;simp only [Ow.block,h1,Value.ownBlock];rw [<- hb];split<;>rfl
 have hmut:∀ b,dV M0 ((H.drop q).push n ⟨kq.ty,kq.Y,kq.P.take hi,false⟩) σ' b->dV M0 H σ b:=by
  rintro b (hm|⟨i,k',o',hk',hf,ho',hb'⟩)
  .exact .inl hm
  .by_cases h1:i=n
   .simp only [σ',h1,if_true,bI] at ho';subst ho';exact .inr ⟨q,kq,oq,hq,hqf,hoq,hblk b hb'⟩
   .by_cases h2:i=q
    .simp only [σ',h2,if_false,if_true,hqn] at ho';cases ho'
    .simp only [σ',h1,h2,if_false] at ho';simp only [AHeap.push,AHeap.drop,h1,h2,if_false] at hk';exact .inr ⟨i,k',o',hk',hf,ho',hb'⟩
 have hkeep:Keeps (dV M0 H σ) σ H.F w (dV M0 ((H.drop q).push n ⟨kq.ty,kq.Y,kq.P.take hi,false⟩) σ') σ' ((H.drop q).push n ⟨kq.ty,kq.Y,kq.P.take hi,false⟩).F w:=by
  refine ⟨λad u hm hu=>⟨λh=>hm (hmut _ h),hu⟩,λi o' hi' ho'=>?_,λi hi'=>.inr hi'⟩;have h1:i≠n:=λe=>hn (e ▸ hi');by_cases h2:i=q
  .simp only [σ',h2,if_true,hqn,if_false] at ho';cases ho'
  .simp only [σ',h1,h2,if_false] at ho';exact ⟨o',ho',.inl rfl⟩
 have hold:∀ {i o'},i≠n->σ' i=some o'->i≠q/\σ i=some o':=λ {i o'} h1 ho'=>by
  by_cases h2:i=q
  .simp only [σ',h2,if_true,hqn,if_false] at ho';cases ho'
  .simp only [σ',h1,h2,if_false] at ho';exact ⟨h2,ho'⟩
 obtain ⟨o2,ho2,l⟩:=hR.am q kq hq;rw [hoq] at ho2;cases ho2
 obtain ⟨xs,hrow,hx1,hrep⟩:=l.row;refine ⟨⟨λi hi'=>?_,λi hi'=>?_,λi k' hk'=>?_,λi j oi oj b hi' hj' hbi hbj=>?_,λi oi b hi' hbi=>?_,hR.m0⟩,⟨rfl,rfl,rfl,bC _,λ_ _ _=>rfl,λi o' b ho' hb'=>?_⟩,hkeep⟩
 .have hi2:¬ (i=n\/H.F i):=hi';have h1:i≠n:=λe=>hi2 (.inl e);have h2:i≠q:=λe=>hi2 (.inr (e ▸ hqal));simp only [σ',AHeap.push,AHeap.drop,h1,h2,if_false];exact hR.cm i λe=>hi2 (.inr e)
 .have hi2:i=n\/H.F i:=hi';have he:((H.drop q).push n ⟨kq.ty,kq.Y,kq.P.take hi,false⟩).next=if n<H.next then H.next else n+1:=rfl
  rw [he];rcases hi2 with rfl|hi2
  .by_cases h:i<H.next
   .rw [if_pos h];exact h
   .rw [if_neg h];omega
  .have:=hR.ce i hi2;by_cases h:n<H.next
   .rw [if_pos h];exact this
   .rw [if_neg h];omega
 .by_cases h1:i=n
  .simp only [AHeap.push,h1,if_true,bI] at hk';subst hk';refine ⟨⟨hi,v,oq.H,oq.ty⟩,by simp [σ',h1],by simp;omega,l.ty,l.Y,λc hc=>l.H c (dD hc),xs.take (hi * oq.H),⟨?_,?_⟩,λu hu=>hx1 u (dD hu),?_⟩
   .have:=hrow.1;have h2:hi * oq.H<=kq.P.length * oq.H:=fY _ hh;simp only [cX];rw [Nat.min_eq_left hh,Nat.min_eq_left aD]
   .have hm:(kq.P.take hi).length=hi:=by simp;omega
    simp only [hm];rcases hv with ⟨h1,h2,h3⟩|⟨b',cap,h1,h2,h3⟩
    .exact .inl ⟨h2,h3⟩
    .rcases hrow.2 with ⟨hn0,_⟩|⟨g,cap',cur,e1,e2,e3,e4,e5,e6,e7⟩
     .rw [h1] at hn0;cases hn0
     .rw [h1] at e1;cases e1
      refine .inr ⟨b',cap,cur,?_,eL _,e3,aD,e5,e6,?_⟩
      .rw [h3];simp
      .rw [<- e7,List.take_take,Nat.min_eq_left (fY _ hh)]
   .have hr:=hrep.q hkeep;refine ⟨?_,λj u d hu hd=>?_⟩
    .simp only;rw [EY kq.P hi l.H];simp [hr.len]
    .simp only at hd;rw [EY kq.P hi l.H,cO] at hd;rw [cO] at hu;split at hd
     .rename_i hj;rw [if_pos hj] at hu;exact hr.Z j u d hu hd
     .cases hd
  .by_cases h2:i=q
   .simp only [AHeap.push,AHeap.drop,h2,if_false,if_true,hqn] at hk';cases hk'
   .simp only [AHeap.push,AHeap.drop,h1,h2,if_false] at hk';obtain ⟨o',ho',l'⟩:=hR.am i k' hk';obtain ⟨xs',a1,a2,a3⟩:=l'.row;exact ⟨o',by simp [σ',h1,h2,ho'],l'.ah,l'.ty,l'.Y,l'.H,xs',a1,a2,a3.q hkeep⟩
 .by_cases h1:i=n<;>by_cases h2:j=n
  .rw [h1,h2]
  .simp only [σ',h1,if_true,bI] at hi';subst hi';obtain ⟨h3,h4⟩:=hold h2 hj';exact absurd (hR.inj j q oj oq b h4 hoq hbj (hblk b hbi)) h3
  .simp only [σ',h2,if_true,bI] at hj';subst hj';obtain ⟨h3,h4⟩:=hold h1 hi';exact absurd (hR.inj i q oi oq b h4 hoq hbi (hblk b hbj)) h3
  .exact hR.inj i j oi oj b (hold h1 hi').2 (hold h2 hj').2 hbi hbj
 .by_cases h1:i=n
  .simp only [σ',h1,if_true,bI] at hi';subst hi';exact hR.lt q oq b hoq (hblk b hbi)
  .exact hR.lt i oi b (hold h1 hi').2 hbi
 .by_cases h1:i=n
  .simp only [σ',h1,if_true,bI] at ho';subst ho';exact .inr ⟨q,oq,hoq,hblk b hb'⟩
  .exact .inr ⟨i,o',(hold h1 ho').2,hb'⟩
theorem OM {H:AHeap}{σ:Nat->Option Ow}{w:World}(J:Rel M0 H σ w){f i a q e:Nat}{k kq:Blk}{s:UN}(G:H.get f=some k)(hf:k.fz=false)(L:k.P[i]?=some s)(R:H.get q=some kq)
  (hn:s[a]?=some (.win q kq.P.length 0 e)) (Q:kq.fz=false) (F:f≠q) :
  ∃ σ',Rel M0 (CT H f i a q e) σ' w/\Stp σ w σ' w/\Keeps (dV M0 H σ) σ H.F w (dV M0 (CT H f i a q e) σ') σ' (CT H f i a q e).F w:=by
 have I:¬ H.F H.next:=λh=>nT _ (J.ce _ h);have X:H.F f:=aY λhn=>by rw [(J.cm f hn).2] at G;cases G
 have r:f≠H.next:=λh=>I (h ▸ X);obtain ⟨K,C,lq⟩:=J.am q kq R;obtain ⟨o,ho,l⟩:=J.am f k G;obtain ⟨M,B,A,m⟩:=l.row;have t:=l.H s (aL L);have p:a<o.H:=by rw [<- t];exact (aQ.1 hn).1
 have n:k.P.flatten[i * o.H+a]?=some (.win q kq.P.length 0 e):=by rw [oC k.P i s l.H L a p];exact hn
 have U:i * o.H+a<M.length:=by rw [m.len];exact (aQ.1 n).1
 obtain ⟨v,N⟩:∃ v,M[i * o.H+a]?=some v:=⟨_,aA U⟩;have P:=m.Z _ v _ N n;have E:v.oneCell'=true:=A v (aL N);obtain ⟨hh,hw⟩:e<=kq.P.length/\WV K v kq.P.length 0 e:=by
  cases P
  rename_i _ _ V h;refine ⟨V.2,?_⟩;rcases h K C with h'|⟨_,h'⟩
  .have:=lq.ah;omega
  .exact h'
 obtain ⟨p1,p2,p3⟩:=Vo J R Q C I hh hw;have W:((H.drop q).push H.next ⟨kq.ty,kq.Y,kq.P.take e,false⟩).get f=some k:=by simp [AHeap.push,AHeap.drop,r,F,G]
 have S:(λi=>if i=H.next then some (⟨e,v,K.H,K.ty⟩:Ow) else if i=q then none else σ i) f=some o:=by simp [r,F,ho]
 have x:∀ c∈k.P.set i (s.set a (.own H.next e)),c.length=o.H:=λc Z=>by
  rcases oL Z with h|h
  .exact l.H c h
  grind
 have Y:=zM (D.own H.next e) a s k.P i l.H L p;obtain ⟨q1,q2,q3⟩:=Rel.put p1 W hf S { k with P:=k.P.set i (s.set a (.own H.next e)) } o ⟨rfl,rfl,rfl,bC _,λ_ _ _=>rfl⟩ (λb hb=>.inl hb) (.inl rfl) (by simp [l.ah]) l.ty l.Y x M (bY B) A (by
   have g:=m.q p3;simp only;rw [Y];refine ⟨by simpa using g.len,λj u d O y=>?_⟩;rw [dL] at y;split at y
   .rename_i hj;split at y
    .cases y
     rw [<- hj,N] at O;cases O
     exact .own _ _ _ (.inl rfl) E λo' ho'=>by simp at ho';subst ho';exact .inr ⟨rfl,rfl⟩
    .cases y
   .exact g.Z j u d O y)
 have hg:CT H f i a q e=((H.drop q).push H.next ⟨kq.ty,kq.Y,kq.P.take e,false⟩).put f { k with P:=k.P.set i (s.set a (.own H.next e)) }:=by
  simp only [CT,G,R,L,Option.getD_some]
 rw [hg];exact ⟨_,q1,p2.trans q2,p3.trans q3⟩
theorem Eh {H H':AHeap}(j:Ghosts H H'){σ:Nat->Option Ow}{w:World}(l:Rel M0 H σ w):∃ σ',Rel M0 H' σ' w/\Stp σ w σ' w/\Keeps (dV M0 H σ) σ H.F w (dV M0 H' σ') σ' H'.F w:=by
 induction j with
 | refl=>exact ⟨σ,l,.refl _ _,.refl _ _ _ _⟩
 | trunc h id i off q hi k kq c hk hf hc hq hn hqf hne ih =>
  obtain ⟨σ1,g,f,e⟩:=ih;obtain ⟨σ2,d,b,a⟩:=OM g hk hf hc hq hn hqf hne;exact ⟨σ2,d,f.trans b,e.trans a⟩
 | step h id i off ty sz k c hk hf hc hn ih =>
  obtain ⟨σ1,g,f,e⟩:=ih;obtain ⟨σ2,d,b,a⟩:=Rq (ty:=ty) (sz:=sz) g hk hf hc hn;exact ⟨σ2,d,f.trans b,e.trans a⟩
theorem St.keeps {H H':AHeap}{σ σ':Nat->Option Ow}{w:World}{e:eF}{a:Act}(hS:St n M0 H σ w e a)(hR:Rel M0 H' σ' w)(hk:Keeps (dV M0 H σ) σ H.F w (dV M0 H' σ') σ' H'.F w):St n M0 H' σ' w e a :=
 ⟨hR,λt=>(hS.dw t).q hk,hS.defers,hS.size⟩
theorem MX {e p:eF}{H H':AHeap}(r:GhE e H p H'){σ:Nat->Option Ow}{w:World}{a:Act}(j:St n M0 H σ w e a) :
  ∃ σ',St n M0 H' σ' w p a/\Stp σ w σ' w/\Keeps (dV M0 H σ) σ H.F w (dV M0 H' σ') σ' H'.F w:=by
 induction r with
 | gh h =>
  obtain ⟨σ',f,d,o⟩:=Eh h j.b0;exact ⟨σ',j.keeps f o,d,o⟩
 | frz h t id n k he hk hn ih =>
  obtain ⟨σ1,m,v,s⟩:=ih j;obtain ⟨f,d,_,x⟩:=MY m.b0 id;obtain ⟨A,z,y,q⟩:=(x id).2 k hk (.inr rfl);have b:=m.keeps f d;refine ⟨σ1,⟨b.b0,λu=>?_,b.defers,b.size⟩,v,s.trans d⟩;have i:=b.dw u;rename_i l _ _ _;by_cases c:u=t
  .subst c;have g:oV l (some u) (D.list k.P) u=.list k.P:=by simp [oV]
   rw [he] at i;rw [g,<- q];exact CX f i z y (by rw [q];exact hn)
  .have g:oV l (some t) (D.list k.P) u=l u:=by simp [oV,c]
   rw [g];exact i
theorem qA (hm:P.follows .mixedOrders=true):∀ (x:Code) (Q:Exit->eF->AHeap->Prop) (e:eF) (H:AHeap),pP P c x Q e H->rB c n x=true ->
  ∀ (σ:Nat->Option Ow) (w:World) (a:Act),St n M0 H σ w e a->x.wp P (Vf n M0 H σ w Q) a w
 | .skip,Q,e,H,h,_,σ,w,a,hS=>wp_skip ⟨e,H,σ,h,hS,.refl _ _,.refl _ _ _ _⟩
 | .region id ops dr,Q,e,H,h,hok,σ,w,a,hS=>by
  simp only [rB,aM,cF,c8,cZ] at hok;unfold pP at h;cases dr with
  | false =>
   simp only [fP,if_false] at h;exact wp_region_list (KI ops.toList e H _ h hok.1 σ w a hS λa' w' hc=>hc)
  | true =>
   simp only [if_true] at h;exact TE hm (hok.2.resolve_left aE) hok.1 h hS λa' w' hc=>hc
 | .seq x y,Q,e,H,h,hok,σ,w,a,hS=>by
  simp only [rB,aM] at hok;unfold pP at h;refine wp_seq (jL (qA hm x _ e H h hok.1 σ w a hS) λex a' w' hc=>?_);cases ex<;>first|exact hc|skip
  obtain ⟨e',H',σ',hq,hS',hst,hk⟩:=hc;exact jL (qA hm y Q e' H' hq hok.2 σ' w' a' hS') λex a'' w'' hc'=>Came.trans hst hk hc'
 | .cond x y z,Q,e,H,h,hok,σ,w,a,hS=>by
  simp only [rB,aM] at hok;unfold pP at h;have hx:=hS.cc.ev x;cases hv:fS e x<;>simp only [hv] at h<;>try (exact h.elim)
  rename_i t;rw [hv] at hx;have hc:a.eval x=.bool t:=by generalize a.eval x=v at hx;cases hx;rfl
  exact wp_cond_split hc (λht=>qA hm y Q e H (h.1 ht) hok.1 σ w a hS) λht=>qA hm z Q e H (h.2 ht) hok.2 σ w a hS
 | .block id b,Q,e,H,h,hok,σ,w,a,hS=>by
  unfold pP at h;refine wp_block (jL (qA hm b _ e H h hok σ w a hS) λex a' w' hc=>?_);cases ex<;>first|exact hc|skip
  rename_i id';by_cases hid:id'=id
  .subst hid;show (if id'=id' then Vf n M0 H σ w Q .normal a' w' else _);rw [if_pos rfl];exact Came.mono hc λe' H' h=>by
    have h':(if id'=id' then Q .normal e' H' else Q (.exit id') e' H'):=h;rw [if_pos rfl] at h';exact h'
  .show (if id'=id then Vf n M0 H σ w Q .normal a' w' else Vf n M0 H σ w Q (.exit id') a' w');rw [if_neg hid];exact Came.mono hc λe' H' h=>by
    have h':(if id'=id then Q .normal e' H' else Q (.exit id') e' H'):=h;rw [if_neg hid] at h';exact h'
 | .loop b,Q,e,H,h,hok,σ,w,a,hS=>by
  unfold pP at h;obtain ⟨I,⟨e1,H1,hgh,k0,h0⟩,hI⟩:=h;obtain ⟨σ1,hS1,g2,g3⟩:=MX hgh hS;let J:Nat->Act->World->Prop:=λk a' w'=>Came n M0 H σ w (I k) a' w'
  have hJ0:J k0 a w:=⟨e1,H1,σ1,h0,hS1,g2,g3⟩
  classical
  let μ:Act->World->Nat:=λa' w'=>if hx:∃ k,J k a' w' then Classical.choose (gY hx) else 0
  refine wp_loop (λa' w'=>∃ k,J k a' w') μ ⟨k0,hJ0⟩ λa' w' hx=>?_;have hμ:μ a' w'=Classical.choose (gY hx):=by simp only [μ,dif_pos hx]
  obtain ⟨e',H',σ',hi,hS',hst,hk⟩:=(Aw (gY hx)).1;refine jL (qA hm b _ e' H' (hI _ e' H' hi) hok σ' w' a' hS') λex a'' w'' hc=>?_;have hc':=Came.trans hst hk hc;cases ex<;>first|exact hc'|skip
  obtain ⟨e20,H20,σ20,⟨e2,H2,hgh2,k',hlt,hk'⟩,hS2,hst2,hk2⟩:=hc';obtain ⟨σ2,j1,j2,j3⟩:=MX hgh2 hS2;have rest:=xa1 j1 (hst2.trans j2) (hk2.trans j3);have hx2:∃ k,J k a'' w'':=⟨k',e2,H2,σ2,hk',rest⟩;refine ⟨hx2,?_⟩;have:μ a'' w''=Classical.choose (gY hx2):=by simp only [μ,dif_pos hx2]
  rw [this,hμ];refine Nat.lt_of_le_of_lt ?_ hlt;rcases bX k' (Classical.choose (gY hx2)) with hlt'|hge
  .exact absurd ⟨e2,H2,σ2,hk',rest⟩ ((Aw (gY hx2)).2 k' hlt')
  .exact hge
 | .exit id,Q,e,H,h,_,σ,w,a,hS=>wp_exit ⟨e,H,σ,h,hS,.refl _ _,.refl _ _ _ _⟩
 | .ret,Q,e,H,h,_,σ,w,a,hS=>wp_ret ⟨e,H,σ,h,hS,.refl _ _,.refl _ _ _ _⟩
 | .rangeFunc ..,Q,e,H,h,_,_,_,_,_=>h.elim
 | .scope ..,Q,e,H,h,_,_,_,_,_=>h.elim
 | .label ..,Q,e,H,h,_,_,_,_,_=>h.elim
 | .goto ..,Q,e,H,h,_,_,_,_,_=>h.elim
 | .refuse ..,Q,e,H,h,_,_,_,_,_=>h.elim
end
end Go.Abs
end
section
namespace Go.Abs
def EK (P:Program):List ResultVar->eF->AHeap->(UN->Prop)->Prop
 | [],_,_,K=>K []
 | .tmp t :: r,e,H,K=>EK P r e H λl=>K (e t :: l)
 | .cell a ty :: r,e,H,K=>(pL P ty (e a) H).cond/\EK P r e H λl=>K ((pL P ty (e a) H).val :: l)
def H8:UN->D
 | [d]=>d
 | l=>.tup l
def VC (P:Program)(rs:List ResultVar)(Q:D->AHeap->Prop):Exit->eF->AHeap->Prop
 | .normal,e,H=>EK P rs e H λl=>Q (H8 l) H
 | .ret,e,H=>EK P rs e H λl=>Q (H8 l) H
 | _,_,_=>False
def El (args:UN):eF:=λt=>args.getD t .junk
def Fd (tmps:Array Value):ResultVar->Sem Value
 | .tmp t=>Pure.pure (tmps.getD t undef)
 | .cell x t=>do loadVar t (<- asAddr (tmps.getD x undef))
section
variable {P:Program} {M0:Nat→Prop} {H:AHeap} {σ:Nat→Option Ow} {w:World} {n:Nat} {e:eF} {a:Act}
theorem zT (hS:St n M0 H σ w e a):∀ (rs:List ResultVar) (K:UN->Prop),EK P rs e H K ->
  ∃ vs l,Sem.run P (rs.mapM (Fd a.tmps)) w=Result.ok vs w/\RepL (dV M0 H σ) σ H.F w vs l/\K l
 | [],K,h=>⟨[],[],by simp,⟨rfl,λj u d hu=>by simp at hu⟩,h⟩
 | .tmp t :: rs,K,h=>by
  obtain ⟨vs,l,h1,h2,h3⟩:=zT hS rs _ h;refine ⟨a.tmps.getD t undef :: vs,e t :: l,by simp [List.mapM_cons,Fd,h1],⟨by simp [h2.len],λj u d hu hd=>?_⟩,h3⟩;cases j with
  | zero=>simp only [mV,bI] at hu hd;subst hu;subst hd;exact hS.dw t
  | succ j=>exact h2.Z j u d (bY hu) (bY hd)
 | .cell x t :: rs,K,h=>by
  obtain ⟨vs,l,h1,h2,h3⟩:=zT hS rs _ h.2;obtain ⟨_,_,v,hr,hv⟩:=Q5 (P:=P) hS.b0 (hS.dw x) h.1;have hld:Sem.run P (Fd a.tmps (.cell x t)) w=.ok v w:=by
   simp only [Fd];unfold Instr.loadAt at hr;generalize a.tmps.getD x undef=q at hr ⊢;cases q with
   | pointer p=>cases p with
    | some ad=>simpa [Instr.sureAddr,asAddr] using hr
    | none=>simp [Instr.sureAddr,stuck] at hr
   | _=>simp [Instr.sureAddr,stuck] at hr
  refine ⟨v :: vs,_ :: l,by simp [List.mapM_cons,hld,h1],⟨by simp [h2.len],λj u d hu hd=>?_⟩,h3⟩;cases j with
  | zero=>simp only [mV,bI] at hu hd;subst hu;subst hd;exact hv
  | succ j=>exact h2.Z j u d (bY hu) (bY hd)
theorem Gd {fn:Func}{vs:List Value}{l:UN}(h:Sem.run P (fn.results.toList.mapM (Fd a.tmps)) w=.ok vs w)(b:RepL (dV M0 H σ) σ H.F w vs l) :
  ∃ v,(results fn a.tmps).run P w=.ok v w/\RepV (dV M0 H σ) σ H.F w v (H8 l):=by
 have c:results fn a.tmps=(do let vs <- fn.results.mapM (Fd a.tmps);Pure.pure (if h:vs.size=1 then vs[0] else .tuple vs)):=rfl;rw [c,Array.mapM_eq_mapM_toList];refine ⟨if h:vs.toArray.size=1 then vs.toArray[0] else .tuple vs.toArray,by simp [h],?_⟩;by_cases f:vs.length=1
 .match vs,f,b with
  | [v],_,b =>
   match l,b with
   | [d],b=>simpa [H8] using b.Z 0 v d rfl rfl
   | [],b=>have:=b.len;simp at this
   | _ :: _ :: _,b=>have:=b.len;simp at this
 .have e:¬ vs.toArray.size=1:=by simpa using f
  rw [dif_neg e];have g:H8 l=.tup l:=by
   match l,b with
   | [],_=>rfl
   | [d],b=>have:=b.len;simp at this;exact absurd this f
   | _ :: _ :: _,_=>rfl
  rw [g];exact .tup vs l b.len b.Z
theorem Z7 {n:Nat}{vals:List Value}{args:UN}(e:Rel M0 H σ w)(a:RepL (dV M0 H σ) σ H.F w vals args)(c:args.length<=n):St n M0 H σ w (El args) { tmps:=vals.toArray++Array.replicate (n - vals.toArray.size) undef,defers:=[] }:=by
 refine ⟨e,λt=>?_,rfl,by simp [a.len];omega⟩;simp only [El];by_cases b:t<vals.length
 .have h1:vals[t]?=some vals[t]:=aA b;have d:args[t]?=some (args[t]'(by rw [<- a.len];exact b)):=aA _;have:=a.Z t _ _ h1 d;rw [List.getD_eq_getElem?_getD,d];simp only [Option.getD_some,nG];rw [Array.getElem?_append_left (bY b)];simpa [h1] using this
 .rw [List.getD_eq_getElem?_getD,b9 (by rw [<- a.len];omega)];exact .junk _
theorem Zj {l r:List ResultVar}(h:l=r:=by first|exact @rfl (List Go.ResultVar) [.tmp _]|exact @rfl (List Go.ResultVar) []|exact @rfl (List Go.ResultVar) [.tmp _,.tmp _]|exact @rfl (List Go.ResultVar) [.cell _ _,.tmp _]|exact @rfl (List Go.ResultVar) [.cell _ _]|exact @rfl (List Go.ResultVar) [.cell _ _,.cell _ _,.tmp _]|exact @rfl (List Go.ResultVar) [.cell _ _,.cell _ _]|exact @rfl (List Go.ResultVar) [.tmp _,.cell _ _,.tmp _]|exact @rfl (List Go.ResultVar) [.tmp _,.tmp _,.tmp _]|exact @rfl (List Go.ResultVar) [.cell _ _,.tmp _,.tmp _]|exact @rfl (List Go.ResultVar) [.cell _ _,.cell _ _,.cell _ _]|exact @rfl (List Go.ResultVar) [.cell _ _,.cell _ _,.cell _ _,.tmp _]):l=r:=h
theorem aJ {f:FuncId}{fn:Func}{x:Code}{rs:List ResultVar}{cfg:Cfg}{args:UN}{Q:D->AHeap->Prop}(y:P.follows .mixedOrders=true)(r:P.funcs[f]?=some fn)(s:fn.body=some x)
  (n:(fn.name=="runtime.NumGoroutine")=false) (c:args.length<=fn.ntmps) (m:rB cfg fn.ntmps x=true)
  (h:pP P cfg x (VC P rs Q) (El args) H) (u:fn.results.toList=rs:=by exact Zj):ACalls P f args H Q:=by
 subst u;refine ⟨⟨fn,r,n,by simp [s]⟩,λg σ w q E B=>calls_of_wp r s ?_⟩;have C:=Z7 E B c;refine jL (qA y x _ _ H h m σ w _ C) λJ t b A=>?_;obtain ⟨K,p,σ',e,a,k,z⟩:=A;have o:EK P fn.results.toList K p (λl=>Q (H8 l) p)->t.defers=[]/\∃ v,(results fn t.tmps).run P b=.ok v b /\
   ∃ v2 d H2 σ2,Ending.returned v=.returned v2/\Rel g H2 σ2 b/\RepV (dV g H2 σ2) σ2 H2.F b v2 d/\Stp σ w σ2 b/\Keeps (dV g H σ) σ H.F w (dV g H2 σ2) σ2 H2.F b/\Q d H2:=by
  intro e;obtain ⟨L,l,I,G,F⟩:=zT a _ _ e;obtain ⟨v,j,i⟩:=Gd (fn:=fn) I G;exact ⟨a.defers,v,j,v,_,p,σ',rfl,a.b0,i,k,z,F⟩
 cases J<;>first|exact o e|exact e.elim
end
/-! ### pure contracts -/
theorem EO {l:UN}(h:∀ d∈l,d.Q=true):D.L l=true:=by
 induction l with
 | nil=>rfl
 | cons a l ih=>simp [D.L,h a aE,ih λd hd=>h d (iw hd)]
def jG:Nat->Option Ow:=λ_=>none
def tB:Nat->Prop:=λ_=>False
def Pure (P:Program)(f:FuncId)(args:UN)(r:D):Prop :=
 Ent P f/\∀ (M:Nat->Prop) (w:World) (vals:List Value),(∀ b,M b->b<w.heap.size)->RepL M jG tB w vals args ->
  Calls P f vals.toArray w λe w'=>∃ v,e=.returned v/\RepV M jG tB w' v r/\RowKit.Below w.heap.size w w'
def Own (P:Program)(f:FuncId)(args:UN)(ty:TypeId)(sz:Nat)(es:UE):Prop :=
 Ent P f/\∀ (M:Nat->Prop) (w:World) (vals:List Value),(∀ b,M b->b<w.heap.size)->RepL M jG tB w vals args ->
  Calls P f vals.toArray w λe w'=>∃ v xs,e=.returned v/\w'.ownsRow w.heap.size ty sz v es.length xs/\(∀ u∈xs,u.oneCell'=true)/\RepL (λb=>M b\/v.ownBlock=some b) jG tB w' xs es.flatten/\D.R es=true/\(∀ c∈es,c.length=sz) /\
   RowKit.Below w.heap.size w w'
def pF (H:AHeap):D->D
 | .tup vs=>.tup (vs.map (jN H))
 | d=>jN H d
def Fh:D->List Nat
 | .tup vs=>vs.flatMap eJ
 | d=>eJ d
section
variable {P:Program} {M0:Nat→Prop} {H:AHeap} {σ:Nat→Option Ow} {w:World}
theorem vW {v:Value}{d:D}(g:Rel M0 H σ w)(b:RepV (dV M0 H σ) σ H.F w v d)(a:List Nat)(f:∀ i∈Fh d,i∈a) :
  RepV (dV M0 (gC a H) σ) σ (gC a H).F w v (pF H d):=by
 cases d with
 | tup vs =>
  cases b
  rename_i h l k;refine .tup h _ (bY l) λj u x hu b=>?_;rw [aN,bV] at b;obtain ⟨y,e,rfl⟩:=b;exact n5 g (k j u y hu e) a λi c=>f i (by simp only [Fh,bQ];exact ⟨y,aL e,c⟩)
 | _=>exact n5 g b a f
theorem HF (M:Nat->Prop):dV M .as jG=M:=by
 funext b;exact propext ⟨λh=>h.elim (λh=>h) λ⟨_,_,_,h,_⟩=>by simp [AHeap.as] at h,.inl⟩
theorem HB (M:Nat->Prop)(w:World)(hM:∀ b,M b->b<w.heap.size):Rel M .as jG w :=
 ⟨λ_ _=>⟨rfl,rfl⟩,λ_ h=>h.elim,λ_ _ h=>by simp [AHeap.as] at h,λ_ _ _ _ _ h=>by simp [jG] at h,λ_ _ _ h=>by simp [jG] at h,hM⟩
theorem Bs {σ':Nat->Option Ow}{w':World}(h:Stp jG w σ' w'):RowKit.Below w.heap.size w w' :=
 ⟨h.os,h.tape,h.output,h.size,λb hb=>h.bx b hb λ_ _ h=>by simp [jG] at h⟩
theorem aX {f:FuncId}{args:UN}{r:D}(h:ACalls P f args .as λd H'=>pF H' d=r/\r.Q=true):Pure P f args r:=by
 refine ⟨h.1,λM w vals hM ha=>(h.2 M jG w vals (HB M w hM) (by rw [HF];exact ha)).mono λe w' ⟨v,d,H',σ',k,m,g,a,n,j,b⟩=>⟨v,k,?_,Bs a⟩⟩;have c:=vW m g (Fh d) λi hi=>hi;rw [j] at c;exact c.bt (λad u hm l=>⟨λh=>hm (.inl h),l⟩) b
theorem DO {f:FuncId}{args:UN}{ty:TypeId}{sz:Nat}{es:UE}
  (h:ACalls P f args .as λd H'=>∃ id k,d=.own id es.length/\H'.get id=some k/\k.P=es/\k.ty=ty/\k.Y=sz/\k.fz=false/\D.R es=true):Own P f args ty sz es:=by
 refine ⟨h.1,λM w vals hM ha=>(h.2 M jG w vals (HB M w hM) (by rw [HF];exact ha)).mono λe w' ⟨v,d,H',σ',K,L,H,n,Q,id,k,q,i,r,N,B,y,p⟩=>?_⟩;subst q;subst r;subst N;subst B;obtain ⟨o,x,l⟩:=L.am id k i;obtain ⟨G,a,t,b⟩:=l.row;cases H
 rename_i _ _ m;rcases m o x with J|⟨_,rfl⟩
 .have:=l.ah;omega
 .refine ⟨o.val,G,K,?_,t,⟨b.len,λj u d hu q=>(b.Z j u d hu q).bt (λad u hm A=>⟨λh=>hm (h.elim .inl λh=>.inr ⟨id,k,o,i,y,x,h⟩),A⟩) ?_⟩,p,λc A=>(l.H c A).trans l.Y,Bs n⟩
  .rw [<- l.Y];refine ⟨a.1,?_⟩;rcases a.2 with I|⟨g,E,C,r,_,B⟩
   .exact .inl I
   .refine .inr ⟨g,E,C,r,?_,B⟩;rcases n.new id o g x (by simp [Ow.block,r,Value.ownBlock]) with h|⟨_,O,h,_⟩
    .exact h
    .simp [jG] at h
  .obtain ⟨c,z,s⟩:=j6.1 (aL q);exact kK (sD p c z) d s
theorem A5 {M:Nat->Prop}{N:Nat->Prop}:Keeps M jG tB w M σ N w:=⟨λ_ _ h k=>⟨h,k⟩,λ_ _ h=>h.elim,λ_ h=>h.elim⟩
theorem iU {M M':Nat->Prop}{N N':Nat->Prop}{σ':Nat->Option Ow}(hM:∀ b,¬ M b->¬ M' b){vs:List Value}{ds:UN}(h:RepL M σ N w vs ds)(hc:D.L ds=true):RepL M' σ' N' w vs ds :=
 ⟨h.len,λj u d hu hd=>(h.Z j u d hu hd).bt (λad u hm hc=>⟨hM _ hm,hc⟩) (kK hc d (aL hd))⟩
theorem w4 (a:Rel M0 H σ w):∀ b,dV M0 H σ b->b<w.heap.size:=by
 rintro b (h|⟨i,k,o,_,_,c,d⟩)
 .exact a.m0 b h
 .exact (a.lt i o b c d).1
theorem t7 {f:FuncId}{args:UN}{r:D}{Q:D->AHeap->Prop}(c:Pure P f args r)(b:D.L args=true)(i:Q r H):ACalls P f args H Q:=by
 refine ⟨c.1,λM0 σ w vals hR ha=>(c.2 (dV M0 H σ) w vals (w4 hR) (iU (λ_ h=>h) ha b)).mono λe w' ⟨v,g,d,a⟩=>?_⟩;obtain ⟨l,k,j⟩:=hR.grow a.os a.tape a.output a.size a.block;exact ⟨v,r,H,σ,g,l,d.q A5,k,j,i⟩
theorem Dz {M0:Nat->Prop}(hR:Rel M0 H σ w){vals:List Value}{args:UN}(ha:RepL (dV M0 H σ) σ H.F w vals args)(ids:List Nat)(hi:∀ i∈args.flatMap eJ,i∈ids) :
  RepL (dV M0 (gC ids H) σ) σ (gC ids H).F w vals (args.map (jN H)) :=
 ⟨by simpa using ha.len,λj u d hu hd=>by
  rw [aN,bV] at hd;obtain ⟨y,hy,rfl⟩:=hd;exact n5 hR (ha.Z j u y hu hy) ids λi hii=>hi i (bQ.2 ⟨y,aL hy,hii⟩)⟩
def D.cR:D->Bool
 | .int .. | .bool _ | .str _ | .nil | .nilp | .nilf=>true
 | _=>false
def D.bf:D->Bool
 | .tup vs=>vs.all D.cR
 | d=>d.cR
theorem M6 {M c:Nat->Prop}{N b:Nat->Prop}{σ σ':Nat->Option Ow}{w w':World}{v:Value}{d:D}(h:RepV M σ N w v d)(a:d.cR=true):RepV c σ' b w' v d:=by
 cases h<;>first|(simp [D.cR] at a;done)|constructor
theorem Bc {M g:Nat->Prop}{N f:Nat->Prop}{σ σ':Nat->Option Ow}{w w':World}{v:Value}{d:D}(h:RepV M σ N w v d)(a:d.bf=true):RepV g σ' f w' v d:=by
 cases d with
 | tup vs =>
  cases h
  rename_i b e c;simp only [D.bf,cF] at a;exact .tup b vs e λj u x hu hx=>M6 (c j u x hu hx) (a x (aL hx))
 | _=>exact M6 h a
theorem zV {f:FuncId}{args:UN}{r:D}{Q:D->AHeap->Prop}(c:Pure P f (args.map (jN H)) r)(b:D.L (args.map (jN H))=true)(g:r.bf=true)(k:Q r H):ACalls P f args H Q:=by
 refine ⟨c.1,λM0 σ w vals hR ha=>?_⟩;obtain ⟨o,s,q,p⟩:=gP (args.flatMap eJ) hR;refine (c.2 (dV M0 (gC (args.flatMap eJ) H) σ) w vals (w4 o) (iU (λ_ h=>h) (Dz hR ha _ λi h=>h) b)).mono λe w' ⟨v,j,d,a⟩=>?_;obtain ⟨n,m,l⟩:=hR.grow a.os a.tape a.output a.size a.block;exact ⟨v,r,H,σ,j,n,Bc d g,m,l,k⟩
theorem Pe {f:FuncId}{args:UN}{r:D}{Q:D->AHeap->Prop}(c:Pure P f (args.map (jN H)) r)(b:D.L (args.map (jN H))=true)(k:Q r (gC (args.flatMap eJ) H)):ACalls P f args H Q:=by
 refine ⟨c.1,λM0 σ w vals hR ha=>?_⟩;obtain ⟨d,o,q,p⟩:=gP (args.flatMap eJ) hR;refine (c.2 (dV M0 (gC (args.flatMap eJ) H) σ) w vals (w4 d) (iU (λ_ h=>h) (Dz hR ha _ λi h=>h) b)).mono λe w' ⟨v,j,g,a⟩=>?_;obtain ⟨n,m,l⟩:=d.grow a.os a.tape a.output a.size a.block;exact ⟨v,r,_,σ,j,n,g.q A5,m,o.trans l,k⟩
theorem GV {f:FuncId}{args:UN}{ty:TypeId}{sz:Nat}{es:UE}{Q:D->AHeap->Prop}(S:Own P f args ty sz es)(L:D.L args=true)
  (hQ:Q (.own H.next es.length) (H.push H.next ⟨ty,sz,es,false⟩)):ACalls P f args H Q:=by
 refine ⟨S.1,λM0 σ w vals hR ha=>(S.2 (dV M0 H σ) w vals (w4 hR) (iU (λ_ h=>h) ha L)).mono λe w' ⟨v,O,he,k,N,y,A,I,C⟩=>?_⟩;have p:w'.ownsRow 0 ty sz v es.length O:=⟨k.1,k.2.imp (λx=>x) λ⟨g,s,r,a,b,c⟩=>⟨g,s,r,a,eL _,c⟩⟩;have M:∀ b,v.ownBlock=some b->w.heap.size<=b:=λb j=>by
  rcases k.2 with E|⟨g,s,r,N,h2,h3⟩
  .rw [E.1] at j;simp [Value.ownBlock] at j
  .rw [N] at j;simp only [Value.ownBlock,bI] at j;omega
 have hG:∀ F,¬ (dV M0 H σ F\/v.ownBlock=some F)->¬ dV M0 (H.push H.next ⟨ty,sz,es,false⟩) (λi=>if i=H.next then some ⟨es.length,v,sz,ty⟩ else σ i) F:=by
  intro F J h;rcases h with h|⟨i,Y,X,z,Z,m,j⟩
  .exact J (.inl (.inl h))
  .by_cases q:i=H.next
   .simp only [q,if_true,bI] at m;subst m;exact J (.inr j)
   .simp only [q,if_false] at m;simp only [AHeap.push,q,if_false] at z;exact J (.inl (.inr ⟨i,Y,X,z,Z,m,j⟩))
 have B:D.L es.flatten=true:=EO λd hd=>by
  obtain ⟨c,K,G⟩:=j6.1 hd;exact kK (sD A c K) d G
 obtain ⟨W,V,U⟩:=Rel.d2 hR H.next (λh=>nT _ (hR.ce _ h)) (w':=w') C.os C.tape C.output C.size C.block ⟨ty,sz,es,false⟩ ⟨es.length,v,sz,ty⟩
  M rfl rfl rfl I O p N (λhk=>iU hG y B)
 exact ⟨v,_,_,_,he,W,.own v _ _ (.inl rfl) (by rcases k.2 with ⟨E,_⟩|⟨g,s,r,E,_⟩<;>simp [E,Value.oneCell']) (λo ho=>by simp at ho;subst ho;exact .inr ⟨rfl,rfl⟩),V,U,hQ⟩
end
end Go.Abs
end

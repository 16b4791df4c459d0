/- The abstraction layer, part Q: the theorem on regions that d -/
import Derived.Test.YtbgbahlipnaflaaGreatZuAD
set_option linter.unusedVariables false
set_option linter.unusedSimpArgs false
section
namespace Go.Abs
theorem Ef {p:Nat->Bool}{i:Nat}:∀ (n:Nat),i<n->p i=true->(∀ k,i<k->k<n->p k=false)->iC p n=some i
 | 0,h,_,_=>by omega
 | n+1,h,hp,hk=>by
  by_cases hi:i=n
  .subst hi;simp [iC,hp]
  .simp only [iC,hk n aD aD,fL,if_false];exact Ef n aD hp λk h1 h2=>hk k h1 aD
section
variable (md:Nat→Bool) (ops:Array Oper) (n0:Nat) (e0:Nat→D) (H0:AHeap) (Hs:Nat→AHeap) (vs:Nat→D) (Fs Ns:Nat→List Nat)
def oM (i:Nat):Option Tmp:=(ops[i]?).bind (·.dst)
def r4 (i:Nat):Bool:=match ops[i]? with|some o=>oC md o|none=>false
def eS (S:Nat->Bool)(m:Nat):Nat->D:=λt =>
 match iC (λk=>S k&&(oM ops k==some t)) m with
 | some k=>vs k
 | none=>e0 t
def HS (S:Nat->Bool)(m:Nat):AHeap where
 next:=n0+ops.size
 D:=λid=>H0.D id\/∃ k,k<m/\S k=true/\id∈Ns k/\(Hs (k+1)).D id
 get:=λid=>match iC (λk=>S k&&(r4 md ops k&&(Fs k).contains id)) m with
  | some k=>(Hs (k+1)).get id
  | none=>H0.get id
end
section
variable {P:Program} {md:Nat→Bool} {ops:Array Oper} {sp:List (Nat × Nat)} {n0:Nat} {es:Nat→Nat→D} {Hs:Nat→AHeap} {vs:Nat→D} {Fs Ns:Nat→List Nat}
theorem nP (i:Nat):ops.toList[i]?=ops[i]?:=aE
theorem xX (hr:Run P md ops sp n0 es Hs vs Fs Ns 0 ops.toList)(hn:(Hs 0).next=n0+ops.size):∀ i,i<=ops.size->es i=eS ops (es 0) vs (λ_=>true) i/\Hs i=HS md ops n0 (Hs 0) Hs Fs Ns (λ_=>true) i
 | 0,_=>⟨by funext t;rfl,by
   generalize hH:Hs 0=X at hn;obtain ⟨nx,al,g⟩:=X;simp only [HS,AHeap.mk.injEq];refine ⟨hn,funext λid=>propext ⟨.inl,λh=>h.elim (λh=>h) λ⟨k,hk,_⟩=>by omega⟩,funext λid=>rfl⟩⟩
 | i+1,hi=>by
  obtain ⟨ih1,ih2⟩:=xX hr hn i aD;have hlt:i<ops.size:=aD;have ho:ops[i]?=some ops[i]:=bR hlt;obtain ⟨h1,hT⟩:=hr.step i ops[i] (by rw [nP,ho]);simp only [fA] at h1 hT;refine ⟨?_,?_⟩
  .rw [h1,ih1];funext t;simp only [eS,iC,iH];have hd:oM ops i=ops[i].dst:=by simp [oM,ho]
   cases hdd:ops[i].dst with
   | none=>simp [oO,hd,hdd,eS]
   | some d =>
    by_cases ht:t=d
    .subst ht;simp [oO,hd,hdd]
    .have ht':¬ d=t:=λh=>ht h.symm;simp [oO,hd,hdd,ht,ht',eS]
  .have hself:=hT.d5;have hw:r4 md ops i=oC md ops[i]:=by simp [r4,ho]
   have hget:∀ id,(Hs (i+1)).get id=if (r4 md ops i&&(Fs i).contains id)=true then (Hs (i+1)).get id else (Hs i).get id:=by
    intro id;split
    .rfl
    .rename_i hc;by_cases hwr:r4 md ops i=true
     .have hnc:id∉Fs i:=λh=>hc (by simp [hwr,h]);rw [hself];simp [wW,hnc]
     .rw [hT.f2 (by rw [<- hw];simpa using hwr)]
   have hnext:(Hs (i+1)).next=n0+ops.size:=by rw [hself,ih2];rfl
   have halq:∀ id,(Hs (i+1)).D id↔(Hs i).D id\/(id∈Ns i/\(Hs (i+1)).D id):=λid=>by
    constructor
    .intro h;rw [hself] at h;exact h
    .intro h;rw [hself];exact h
   generalize hH:Hs (i+1)=X at hget hnext halq;obtain ⟨nx,al,g⟩:=X;simp only [HS,AHeap.mk.injEq];refine ⟨hnext,funext λid=>propext ?_,funext λid=>?_⟩
   .rw [show al id↔_ from halq id,ih2];simp only [HS];constructor
    .rintro ((h|⟨k,hk,_,hm,h⟩)|⟨hm,h⟩)
     .exact .inl h
     .exact .inr ⟨k,aD,trivial,hm,h⟩
     .exact .inr ⟨i,aD,trivial,hm,by rw [hH];exact h⟩
    .rintro (h|⟨k,hk,_,hm,h⟩)
     .exact .inl (.inl h)
     .by_cases hki:k=i
      .subst hki;rw [hH] at h;exact .inr ⟨hm,h⟩
      .exact .inl (.inr ⟨k,aD,trivial,hm,h⟩)
   .have:=hget id;simp only at this;rw [this,ih2];simp only [HS,iC,iH];split
    .simp only [hH]
    .rfl
theorem tD (h:xT md ops sp=true){i j:Nat}(a:i<j)(d:j<ops.size) :
  ((PE ops.toList []).getD j 0).testBit i=true\/(MC ops (ops[i]' aD) ops[j]=false/\(IB md (ops[i]' aD) ops[j]=false\/(i,j)∈sp)):=by
 unfold xT at h;simp only [b9,aW] at h;have c:=h j d;rw [bR d] at c;simp only [aL,b9,aW] at c;have b:=c.2 i a;rw [bR aD] at b;simp only [c7,aL,cX,zL] at b;exact b
theorem SE (h:xT md ops sp=true){j:Nat}{o:Oper}(c:ops[j]?=some o):∀ e∈o.after.toList,Region.binds .any e=true->e.on<j:=by
 have d:j<ops.size:=(sU.1 c).1;unfold xT at h;simp only [b9,aW] at h;have b:=h j d;rw [c] at b;simp only [aL,b9,c7,cX,decide_eq_true_eq] at b;intro e f g;rcases b.1.1 e f with a|a
 .rw [g] at a;cases a
 .exact a
variable {S:Nat→Bool} {i:Nat}
def oH (S:Nat->Bool)(i:Nat):Nat->Bool:=λk=>k==i||S k
theorem Lt {o:Op}(h:xQ o=true):sD o=true:=by
 cases o<;>first|rfl|(simp [xQ] at h;done)|exact h
theorem rT {md:Nat->Bool}{o:Oper}(h:oC md o=true):sD o.op=true:=by
 unfold oC at h;rw [c7] at h;rcases h with h|h
 .exact Lt h
 .unfold Gk at h;split at h
  .rename_i a;rw [a];rfl
  .cases h
theorem AA {x y:Oper}(h:MC ops x y=false):(∀ t,x.dst=some t->t∉y.looksAt ops/\y.dst≠some t)/\(∀ t,y.dst=some t->t∉x.looksAt ops):=by
 have:=Oper.apart_spec (by simpa [MC] using h);grind
theorem Fa (e:xT md ops sp=true)(d:M7 ops S)(c:M7 ops (oH S i))(f:i<ops.size)(b:S i=false) :
  (∀ k,k<i->(((PE ops.toList []).getD i 0).testBit k=true)->S k=true)/\(∀ k,i<k->k<ops.size->((PE ops.toList []).getD k 0).testBit i=true->S k=false):=by
 refine ⟨λk hk hb=>?_,λk hk hk2 hb=>?_⟩
 .have:=Li c i k (by simp [oH]) hb;simp only [oH,c7,beq_iff_eq] at this;grind
 .cases a:S k with
  | false=>rfl
  | true=>have:=Li d k i a hb;rw [b] at this;cases this
theorem Km (r:Run P md ops sp n0 es Hs vs Fs Ns 0 ops.toList)(A:(Hs 0).next=n0+ops.size)(o:xT md ops sp=true)(C:M7 ops S)(w:M7 ops (oH S i))(q:i<ops.size)(n:S i=false) :
  (∀ t∈(ops[i]).looksAt ops,eS ops (es 0) vs S ops.size t=es i t)/\gM (Fs i) (HS md ops n0 (Hs 0) Hs Fs Ns S ops.size) (Hs i):=by
 obtain ⟨y,x⟩:=Fa o C w q n;obtain ⟨E,D⟩:=xX r A i aD;have v:∀ k,k<ops.size->oM ops k=(ops[k]?).bind (·.dst):=λk _=>rfl;obtain ⟨_,z⟩:=r.step i ops[i] (by rw [nP,bR q]);simp only [fA] at z;refine ⟨λt ht=>?_,λid e=>?_⟩
 .rw [E];simp only [eS,iH];have u:iC (λk=>S k&&(oM ops k==some t)) ops.size=iC (λk=>oM ops k==some t) i:=by
   rw [BQ (p:=λk=>S k&&(oM ops k==some t)) i ops.size aD (λk g hk2=>?_)]
   .refine lJ i λk g=>?_;cases c:(oM ops k==some t) with
    | false=>simp
    | true =>
     have j:k<ops.size:=aD;have m:ops[k].dst=some t:=by simpa [oM,bR j] using c
     rcases tD o g q with h|⟨h,_⟩
     .simp [y k g h]
     .exact absurd ht ((AA h).1 t m).1
   .by_cases l:k=i
    .subst l;simp [n]
    .cases c:(oM ops k==some t) with
     | false=>simp
     | true =>
      have m:ops[k].dst=some t:=by simpa [oM,bR hk2] using c
      rcases tD o (aD:i<k) hk2 with h|⟨h,_⟩
      .simp [x k aD hk2 h]
      .exact absurd ht ((AA h).2 t m)
  rw [u]
 .rw [D];have b:sD ops[i].op=true:=by
   cases B:sD ops[i].op with
   | true=>rfl
   | false=>rw [z.hA B] at e;cases e
  simp only [HS,iH];have u:iC (λk=>S k&&(r4 md ops k&&(Fs k).contains id)) ops.size=iC (λk=>r4 md ops k&&(Fs k).contains id) i:=by
   rw [BQ (p:=λk=>S k&&(r4 md ops k&&(Fs k).contains id)) i ops.size aD (λk g hk2=>?_)]
   .refine lJ i λk g=>?_;cases c:(r4 md ops k&&(Fs k).contains id) with
    | false=>simp
    | true =>
     have j:k<ops.size:=aD;simp only [aL,zL] at c;have a:oC md ops[k]=true:=by simpa [r4,bR j] using c.1
     rcases tD o g q with h|⟨_,h|h⟩
     .simp [y k g h]
     .simp [IB,b,rT a,a] at h
     .have d:=r.apart k i g (bZ q);simp only [fA] at d;exact absurd e (d h id c.2)
   .by_cases l:k=i
    .subst l;simp [n]
    .cases c:(r4 md ops k&&(Fs k).contains id) with
     | false=>simp
     | true =>
      simp only [aL,zL] at c;have a:oC md ops[k]=true:=by simpa [r4,bR hk2] using c.1
      rcases tD o (aD:i<k) hk2 with h|⟨_,h|h⟩
      .simp [x k aD hk2 h]
      .simp [IB,b,rT a,a] at h
      .have d:=r.apart i k aD (bZ hk2);simp only [fA] at d;exact absurd c.2 (d h id e)
  rw [u]
theorem TR (y:Run P md ops sp n0 es Hs vs Fs Ns 0 ops.toList)(H:(Hs 0).next=n0+ops.size)(x:xT md ops sp=true)(F:M7 ops S)(v:M7 ops (oH S i))(m:i<ops.size)(u:S i=false) :
  oO (eS ops (es 0) vs S ops.size) ops[i].dst (vs i)=eS ops (es 0) vs (oH S i) ops.size /\
  wW (HS md ops n0 (Hs 0) Hs Fs Ns S ops.size) (Hs (i+1)) (Fs i) (Ns i)=HS md ops n0 (Hs 0) Hs Fs Ns (oH S i) ops.size:=by
 obtain ⟨I,C⟩:=Fa x F v m u;obtain ⟨_,E⟩:=y.step i ops[i] (by rw [nP,bR m]);simp only [fA] at E;have B:=(Km y H x F v m u).2;have j:ops[i]?=some ops[i]:=bR m;refine ⟨?_,?_⟩
 .funext t;by_cases q:ops[i].dst=some t
  .have g:iC (λk=>oH S i k&&(oM ops k==some t)) ops.size=some i:=by
    refine Ef ops.size m (by simp [oH,oM,j,q]) λk e c=>?_;cases r:(oM ops k==some t) with
    | false=>simp
    | true =>
     have z:ops[k].dst=some t:=by simpa [oM,bR c] using r
     rcases tD x e c with h|⟨h,_⟩
     .have a:(k==i)=false:=by simp;omega
      simp [oH,a,C k e c h]
     .exact absurd z ((AA h).1 t q).2
   simp only [eS,g,oO,q,if_true]
  .have g:iC (λk=>oH S i k&&(oM ops k==some t)) ops.size=iC (λk=>S k&&(oM ops k==some t)) ops.size:=by
    refine lJ _ λk e=>?_;by_cases a:k=i
    .subst a;have:(oM ops k==some t)=false:=by simp [oM,j];exact q
     simp [this]
    .have:(k==i)=false:=by simpa using a
     simp [oH,this]
   simp only [eS,g];cases A:ops[i].dst with
   | none=>rfl
   | some d =>
    have:¬ t=d:=λh=>q (by rw [A,h]);simp only [oO,this,if_false];rfl
 .simp only [wW,HS,AHeap.mk.injEq,true_and];refine ⟨funext λid=>propext ?_,funext λid=>?_⟩
  .constructor
   .rintro ((h|⟨k,e,n,o,h⟩)|⟨o,h⟩)
    .exact .inl h
    .exact .inr ⟨k,e,by simp [oH,n],o,h⟩
    .exact .inr ⟨i,m,by simp [oH],o,h⟩
   .rintro (h|⟨k,e,n,o,h⟩)
    .exact .inl (.inl h)
    .by_cases a:k=i
     .subst a;exact .inr ⟨o,h⟩
     .have:(k==i)=false:=by simpa using a
      exact .inl (.inr ⟨k,e,by simpa [oH,this] using n,o,h⟩)
  .by_cases w:oC md ops[i]=true
   .by_cases b:id∈Fs i
    .rw [if_pos b];have g:iC (λk=>oH S i k&&(r4 md ops k&&(Fs k).contains id)) ops.size=some i:=by
      refine Ef ops.size m (by simp [oH,r4,j,w,b]) λk e c=>?_;cases r:(r4 md ops k&&(Fs k).contains id) with
      | false=>simp
      | true =>
       simp only [aL,zL] at r;have p:oC md ops[k]=true:=by simpa [r4,bR c] using r.1
       rcases tD x e c with h|⟨_,h|h⟩
       .have a:(k==i)=false:=by simp;omega
        simp [oH,a,C k e c h]
       .simp [IB,rT w,rT p,p] at h
       .have s:=y.apart i k e (bZ c);simp only [fA] at s;exact absurd r.2 (s h id b)
     rw [g]
    .rw [if_neg b];have g:iC (λk=>oH S i k&&(r4 md ops k&&(Fs k).contains id)) ops.size=iC (λk=>S k&&(r4 md ops k&&(Fs k).contains id)) ops.size:=by
      refine lJ _ λk e=>?_;by_cases a:k=i
      .subst a;simp [b]
      .have:(k==i)=false:=by simpa using a
       simp [oH,this]
     rw [g]
   .have g:iC (λk=>oH S i k&&(r4 md ops k&&(Fs k).contains id)) ops.size=iC (λk=>S k&&(r4 md ops k&&(Fs k).contains id)) ops.size:=by
     refine lJ _ λk e=>?_;by_cases a:k=i
     .subst a;have:r4 md ops k=false:=by simp [r4,j];simpa using w
      simp [this]
     .have:(k==i)=false:=by simpa using a
      simp [oH,this]
    rw [g];by_cases b:id∈Fs i
    .rw [if_pos b,E.f2 (bZ w),<- B id b];rfl
    .rw [if_neg b]
theorem CB (hr:Run P md ops sp n0 es Hs vs Fs Ns 0 ops.toList){id:Nat}:∀ (j k:Nat),k<=j->j<=ops.size->(Hs k).D id->(Hs j).D id
 | 0,k,hk,_,h=>by rw [(aD:(0:Nat)=k)];exact h
 | j+1,k,hk,hj,h=>by
  by_cases he:k=j+1
  .rw [<- he];exact h
  .have ih:=CB hr j k aD aD h;obtain ⟨_,hT⟩:=hr.step j ops[j] (by rw [nP,bR aD]);simp only [fA] at hT;rw [hT.d5];exact .inl ih
theorem S2 (a:Run P md ops sp n0 es Hs vs Fs Ns 0 ops.toList)(s:i<ops.size)(j:S i=false):∀ id∈Ns i,¬ (HS md ops n0 (Hs 0) Hs Fs Ns S ops.size).D id:=by
 intro id g;obtain ⟨_,m⟩:=a.step i ops[i] (by rw [nP,bR s]);simp only [fA] at m;obtain ⟨n,l⟩:=m.new id g;rintro (h|⟨k,r,c,p,h⟩)
 .exact n (CB a i 0 aD aD h)
 .obtain ⟨_,b⟩:=a.step k ops[k] (by rw [nP,bR r]);simp only [fA] at b;obtain ⟨o,d⟩:=b.new id p;have f:k≠i:=λe=>by subst e;rw [j] at c;cases c
  rcases Nat.lt_or_gt_of_ne f with q|t
  .exact n (CB a i (k+1) aD aD h)
  .rcases l with l|⟨l,u⟩
   .rcases d with d|⟨d,_⟩<;>omega
   .exact o (CB a k (i+1) aD aD u)
end
end Go.Abs
end
section
namespace Go.Abs
def Came (n:Nat)(M0:Nat->Prop)(H0:AHeap)(σ0:Nat->Option Ow)(w0:World)(K:(Nat->D)->AHeap->Prop)(a:Act)(w:World):Prop :=
 ∃ e H σ,K e H/\St n M0 H σ w e a/\Stp σ0 w0 σ w/\Keeps (dQ M0 H0 σ0) σ0 H0.D w0 (dQ M0 H σ) σ H.D w
theorem Came.mono {n:Nat}{M0:Nat->Prop}{H0:AHeap}{σ0:Nat->Option Ow}{w0:World}{K K':(Nat->D)->AHeap->Prop}{a:Act}{w:World}(h:Came n M0 H0 σ0 w0 K a w)
 (hk:∀ e H,K e H->K' e H):Came n M0 H0 σ0 w0 K' a w:=let ⟨e,H,σ,a,b⟩:=h;⟨e,H,σ,hk _ _ a,b⟩
theorem Came.trans {n:Nat}{M0:Nat->Prop}{H0 H1:AHeap}{σ0 σ1:Nat->Option Ow}{w0 w1:World}{K:(Nat->D)->AHeap->Prop}{a:Act}{w:World}
  (hs:Stp σ0 w0 σ1 w1) (hk:Keeps (dQ M0 H0 σ0) σ0 H0.D w0 (dQ M0 H1 σ1) σ1 H1.D w1) (h:Came n M0 H1 σ1 w1 K a w):Came n M0 H0 σ0 w0 K a w :=
 let ⟨e,H,σ,a,b,c,d⟩:=h;⟨e,H,σ,a,b,hs.trans c,hk.trans d⟩
section
variable {P:Program} {md:Nat→Bool} {n:Nat} {M0:Nat→Prop}
theorem Rel.cE {H:AHeap}{σ:Nat->Option Ow}{w:World}(h:Rel M0 H σ w){m:Nat}(hm:H.next<=m):Rel M0 { H with next:=m } σ w :=
 ⟨h.ce,λid hid=>dC (h.b4 id hid) hm,λid k hk=>h.aj id k hk,h.inj,h.lt,h.m0⟩
theorem StepC.mono {ops:Array Oper}{Q:Exit->Act->World->Prop}{o:Oper}{K K':Act->World->Prop}{a:Act}{w:World}(h:∀ a w,K a w->K' a w)(b:StepC P ops Q o K a w):StepC P ops Q o K' a w:=by
 unfold StepC at *;split
 .rename_i c;rw [if_pos c] at b;exact b.imp (Oper.wp_mono h) id
 grind
def oI (P:Program)(md:Nat->Bool)(ops:Array Oper):List Oper->(Nat->D)->AHeap->((Nat->D)->AHeap->Prop)->Prop
 | [],e,H,K=>K e H
 | o :: rest,e,H,K=>qT P md none H.next ops e o H λv H' _=>oI P md ops rest (oO e o.dst v) H' K
theorem IN {ops:Array Oper}{Q:Exit->Act->World->Prop}:∀ (l:List Oper) (e:Nat->D) (H:AHeap) (K:(Nat->D)->AHeap->Prop),oI P md ops l e H K->(∀ o∈l,sG n o.dst=true) ->
  ∀ (σ:Nat->Option Ow) (w:World) (a:Act),St n M0 H σ w e a->(∀ a' w',Came n M0 H σ w K a' w'->Q .normal a' w')->wpList P ops Q l a w
 | [],e,H,K,h,hd,σ,w,a,hS,hQ=>wpList_nil (hQ a w ⟨e,H,σ,h,hS,.refl _ _,.refl _ _ _ _⟩)
 | o :: l,e,H,K,h,hd,σ,w,a,hS,hQ=>by
  unfold oI at h;have hs:=AD (Q:=Q) h hS (λhn=>nG _ (hS.bx.b4 _ hn)) (hd o aE);have:=StepC.mono (K':=wpList P ops Q l) (λa' w' ⟨v,H',F,σ',hk,hS',hst,hkp⟩ =>
   IN l _ _ _ hk (λo' ho'=>hd o' (by simp [ho'])) σ' w' a' hS' λa'' w'' hc=>hQ a'' w'' (hc.trans hst hkp)) hs
  unfold StepC at this;unfold wpList;exact this
theorem WB {ops:Array Oper}{a:Nat->D}{vs:Nat->D}{S T:Nat->Bool}{m:Nat}(h:∀ k,k<m->S k=T k):eS ops a vs S m=eS ops a vs T m:=by
 funext t;unfold eS;rw [lJ (p:=λk=>S k&&(oM ops k==some t)) (q:=λk=>T k&&(oM ops k==some t)) m λk hk=>by rw [h k hk]]
theorem Ss {ops:Array Oper}{c:Nat}{f:AHeap}{e:Nat->AHeap}{a d:Nat->List Nat}{S T:Nat->Bool}{m:Nat}(h:∀ k,k<m->S k=T k):HS md ops c f e a d S m=HS md ops c f e a d T m:=by
 unfold HS;congr 1
 .funext b;grind
 .funext b;rw [lJ (p:=λk=>S k&&(r4 md ops k&&(a k).contains b)) (q:=λk=>T k&&(r4 md ops k&&(a k).contains b)) m λk hk=>by rw [h k hk]]
def wB (S:Nat->Bool):Nat->Nat
 | 0=>0
 | m+1=>(if S m then 0 else 1)+wB S m
theorem Pq {S:Nat->Bool}:∀ {m:Nat},wB S m=0->∀ k,k<m->S k=true
 | 0,_,k,hk=>by omega
 | m+1,h,k,hk=>by
  simp only [wB] at h;by_cases hk':k=m
  .subst hk';cases hS:S k<;>simp [hS] at h ⊢
  .exact Pq (m:=m) aD k aD
theorem Iv {S T:Nat->Bool}:∀ {m:Nat},(∀ k,k<m->S k=T k)->wB S m=wB T m
 | 0,_=>rfl
 | m+1,h=>by simp only [wB,h m aD,Iv (m:=m) λk hk=>h k aD]
theorem Sh {S:Nat->Bool}{i:Nat}(a:S i=false):∀ {m:Nat},i<m->wB (oH S i) m+1=wB S m
 | 0,h=>by omega
 | m+1,h=>by
  simp only [wB];by_cases hi:i=m
  .subst hi;have h1:oH S i i=true:=by simp [oH]
   have b:wB (oH S i) i=wB S i:=Iv λk hk=>by
    have:(k==i)=false:=by simp;omega
    simp [oH,this]
   grind
  .have h1:oH S i m=S m:=by
    have:(m==i)=false:=by simp;omega
    simp [oH,this]
   have:=Sh a (m:=m) aD;rw [h1];omega
theorem Q1 {ops:Array Oper}{sp:List (Nat × Nat)}{id:Nat}{e:Nat->D}{H:AHeap}{σ:Nat->Option Ow}{w:World}{a:Act}{K:(Nat->D)->AHeap->Prop}{Q:Exit->Act->World->Prop}
  (hm:P.follows .mixedOrders=true) (hs:xT md ops sp=true) (hd:∀ o∈ops.toList,sG n o.dst=true)
  (h:kW P md ops sp H.next 0 ops.toList [] e { H with next:=H.next+ops.size } K) (hS:St n M0 H σ w e a) (hQ:∀ a' w',Came n M0 H σ w K a' w'->Q .normal a' w') :
  (Code.region id ops true).wp P Q a w:=by
 refine wp_region_any hm ?_;obtain ⟨c0,a3,a4⟩:=hS.bx.drew;have b9:=c0.cE (m:=H.next+ops.size) aD;have b8:St n M0 { H with next:=H.next+ops.size } σ w.drew e a:=⟨b9,λt=>(hS.dl t).q a4,hS.defers,hS.size⟩;obtain ⟨es,u,vs,V,Ns,he,U,hK,d,_⟩:=Lq (nn:=H.next+ops.size) ops.toList 0 [] e _ K h (λi hi=>hS.bx.b4 i hi) rfl aE;simp only [fA,gC] at hK;have hn:(u 0).next=H.next+ops.size:=by rw [U]
 have b2:∀ (g:Nat) (c:Array Bool) (a':Act) (w':World),c.size=ops.size->wB (λk=>c.getD k false) ops.size<=g->M7 ops (λk=>c.getD k false) ->
   (∃ σ',St n M0 (HS md ops H.next (u 0) u V Ns (λk=>c.getD k false) ops.size) σ' w' (eS ops (es 0) vs (λk=>c.getD k false) ops.size) a'/\Stp σ w σ' w' /\
    Keeps (dQ M0 H σ) σ H.D w (dQ M0 (HS md ops H.next (u 0) u V Ns (λk=>c.getD k false) ops.size) σ') σ' (HS md ops H.next (u 0) u V Ns (λk=>c.getD k false) ops.size).D w') ->
   wpAny P .any ops Q g c a' w':=by
  intro g;induction g with
  | zero =>
   intro c a' w' hl hc hD ⟨σ',M,q,I⟩;have l:=Pq (S:=λk=>c.getD k false) (m:=ops.size) aD;refine ⟨?_,?_⟩
   .unfold Region.ready;simp_all
   .refine hQ a' w' ⟨es ops.size,u ops.size,σ',hK,?_,q,?_⟩
    .obtain ⟨r1,r2⟩:=xX d hn ops.size (bF _);rw [r1,r2,WB (T:=λk=>c.getD k false) λk s=>(l k s).symm,Ss (T:=λk=>c.getD k false) λk s=>(l k s).symm];exact M
    .obtain ⟨r1,r2⟩:=xX d hn ops.size (bF _);rw [r2,Ss (T:=λk=>c.getD k false) λk s=>(l k s).symm];exact I
  | succ g ih =>
   intro c a' w' hl hc hD ⟨σ',M,q,I⟩;have C:∀ i,i∈Region.ready .any ops c->i<ops.size/\c.getD i false=false/\∀ o,ops[i]?=some o->∀ B∈o.after.toList,Region.binds .any B=true->c.getD B.on false=true:=by
    intro i hi;unfold Region.ready at hi;simp only [fY,aW,aL,cX] at hi;obtain ⟨h1,h2,h3⟩:=hi;refine ⟨h1,?_,λo E B y hb=>?_⟩
    .simp only [mW] at h2 ⊢;rw [bR aD] at h2 ⊢;simpa using h2
    .rw [E] at h3;simp only [eD,Option.getD_some,Array.all_eq_true_iff_forall_mem] at h3;have:=h3 B (bZ y);rw [hb] at this;simpa using this
   refine ⟨λhnil=>?_,λi hi=>?_⟩
   .-- nothing is ready: all is done
    have l:∀ k,k<ops.size->c.getD k false=true:=by
     intro k;induction k using Nat.strongRecOn with
     | _ k ihk =>
      intro s;cases Z:c.getD k false with
      | true=>rfl
      | false =>
       exfalso;have R:k∈Region.ready .any ops c:=by
        unfold Region.ready;simp only [fY,aW,aL,cX];refine ⟨s,?_,?_⟩
        .simp only [mW] at Z ⊢;rw [bR aD] at Z ⊢;simpa using Z
        .have E:ops[k]?=some ops[k]:=bR s;rw [E];simp only [eD,Option.getD_some,Array.all_eq_true_iff_forall_mem];intro B y;cases hb:Region.binds .any B with
         | false=>simp
         | true =>
          have b3:=SE hs E B (bZ y) hb;simp [ihk B.on b3 aD]
       rw [hnil] at R;cases R
    have:=(ih c a' w' hl (by
     have:wB (λk=>c.getD k false) ops.size=wB (λ_=>true) ops.size:=Iv l;have h0:∀ m,wB (λ_=>true) m=0:=λm=>by induction m with
      | zero=>rfl
      | succ m ih=>simp [wB,ih]
     rw [this,h0];omega) hD ⟨σ',M,q,I⟩)
    cases g with
    | zero=>exact this.2
    | succ f=>exact this.1 hnil
   .obtain ⟨x,A,b5⟩:=C i hi;have E:ops[i]?=some ops[i]:=bR x;have a2:M7 ops (oH (λk=>c.getD k false) i):=by
     intro j o hj z B y hb;simp only [oH,c7,beq_iff_eq] at z;simp only [oH,c7];rcases z with rfl|z
     .exact .inr (b5 o hj B y hb)
     .exact .inr (hD j o hj z B y hb)
    have r:(λk=>(c.setIfInBounds i true).getD k false)=oH (λk=>c.getD k false) i:=by
     funext k;simp only [oH,mW,Array.getElem?_setIfInBounds];by_cases a0:k=i
     .subst a0;simp [hl,x]
     .have:¬ i=k:=λh=>a0 h.symm;have h2:(k==i)=false:=by simpa using a0
      simp [this,h2]
    obtain ⟨a6,b6⟩:=Km d hn hs hD a2 x A;obtain ⟨b7,a7⟩:=TR d hn hs hD a2 x A;obtain ⟨_,hT⟩:=d.step i ops[i] (by rw [nP,E]);simp only [fA] at hT;have Y:=S2 d (S:=λk=>c.getD k false) x A;have b1:∀ id∈Ns i,id<H.next+ops.size:=λid J=>by rcases (hT.new id J).2 with h|⟨h,_⟩<;>omega
    have O:¬ (HS md ops H.next (u 0) u V Ns (λk=>c.getD k false) ops.size).D (H.next+i):=by
     simp only [HS];rintro (h|⟨k,s,a9,b4,_⟩)
     .rw [U] at h;have:=hS.bx.b4 _ h;omega
     .obtain ⟨_,a8⟩:=d.step k ops[k] (by rw [nP,bR s]);simp only [fA] at a8;have:k=i:=by rcases (a8.new _ b4).2 with h|⟨h,_⟩<;>omega
      subst this;rw [A] at a9;cases a9
    have W:=hT.any _ _ a6 b6 (by simp only [HS];omega) O (λid J=>⟨by simp only [HS];exact b1 id J,Y id J⟩);have hc:=AD (Q:=Q) W M O (hd ops[i] aE) (λm hm=>by cases hm;simp only [HS];omega);have a1:StepC P ops Q ops[i] (wpAny P .any ops Q g (c.setIfInBounds i true)) a' w':=by
     refine StepC.mono (λa'' w'' ⟨v,H',F,σ'',⟨hv,c1⟩,b0,X,a5⟩=>?_) hc;subst hv;subst c1;refine ih _ a'' w'' (bZ hl) ?_ (by rw [r];exact a2) ⟨σ'',?_,q.trans X,?_⟩
     .rw [r];have:=Sh (S:=λk=>c.getD k false) A x;omega
     .rw [r,<- b7,<- a7];exact b0
     .rw [r,<- a7];exact I.trans a5
    unfold wpOp;rw [E];exact a1
 refine b2 ops.size _ a _ aE ?_ ?_ ⟨σ,?_,a3,?_⟩
 .have:∀ S:Nat->Bool,∀ m,wB S m<=m:=λS m=>by
   induction m with
   | zero=>simp [wB]
   | succ m ih=>simp only [wB];split<;>omega
  exact this _ _
 .intro j o E z;exfalso;have hj:j<ops.size:=(sU.1 E).1;simp [hj] at z
 .have L:(λk=>(Array.replicate ops.size false).getD k false)=λ_=>false:=by
   funext k;by_cases s:k<ops.size<;>simp [s]
  have G:∀ (p:Nat->Bool) m,iC (λk=>false&&p k) m=none:=λp m=>by
   induction m with
   | zero=>rfl
   | succ m ih=>simp only [iC,Fz,fL,if_false];exact ih
  have e1:eS ops (es 0) vs (λk=>(Array.replicate ops.size false).getD k false) ops.size=e:=by
   rw [L];funext t;simp only [eS,G (λk=>oM ops k==some t)];rw [he]
  have e2:HS md ops H.next (u 0) u V Ns (λk=>(Array.replicate ops.size false).getD k false) ops.size={ H with next:=H.next+ops.size }:=by
   rw [L];simp only [HS,AHeap.mk.injEq,true_and];refine ⟨funext λid=>propext ⟨λh=>h.elim (λh=>by rw [U] at h;exact h) λ⟨_,_,h,_⟩=>(by cases h),λh=>.inl (by rw [U];exact h)⟩,funext λid=>?_⟩;rw [G (λk=>r4 md ops k&&(V k).contains id),U]
  rw [e1,e2];exact b8
 .have L:(λk=>(Array.replicate ops.size false).getD k false)=λ_=>false:=by
   funext k;by_cases s:k<ops.size<;>simp [s]
  have G:∀ (p:Nat->Bool) m,iC (λk=>false&&p k) m=none:=λp m=>by
   induction m with
   | zero=>rfl
   | succ m ih=>simp only [iC,Fz,fL,if_false];exact ih
  have e2:HS md ops H.next (u 0) u V Ns (λk=>(Array.replicate ops.size false).getD k false) ops.size={ H with next:=H.next+ops.size }:=by
   rw [L];simp only [HS,AHeap.mk.injEq,true_and];refine ⟨funext λid=>propext ⟨λh=>h.elim (λh=>by rw [U] at h;exact h) λ⟨_,_,h,_⟩=>(by cases h),λh=>.inl (by rw [U];exact h)⟩,funext λid=>?_⟩;rw [G (λk=>r4 md ops k&&(V k).contains id),U]
  rw [e2];exact a4
end
end Go.Abs
end
section
namespace Go.Abs
abbrev eB:=Nat->D
structure Cfg where
 own:Nat->Bool
 sp:Nat->List (Nat × Nat)
def H9 (H:AHeap)(id i off:Nat)(ty sz:Nat):AHeap :=
 match H.get id with
 | some k=>(H.put id { k with P:=k.P.set i ((k.P[i]?.getD []).set off (.own H.next 0)) }).push H.next ⟨ty,sz,[],false⟩
 | none=>H
def AHeap.drop (H:AHeap)(id:Nat):AHeap:=⟨H.next,H.D,λi=>if i=id then none else H.get i⟩
def BX (H:AHeap)(id i off q hi:Nat):AHeap :=
 match H.get id,H.get q with
 | some k,some kq=>(((H.drop q).push H.next ⟨kq.ty,kq.Y,kq.P.take hi,false⟩).put id { k with P:=k.P.set i ((k.P[i]?.getD []).set off (.own H.next hi)) })
 | _,_=>H
inductive Ghosts:AHeap->AHeap->Prop
 | refl (H:AHeap):Ghosts H H
 | trunc {H H1:AHeap} (h:Ghosts H H1) (id i off q hi:Nat) (k kq:Blk) (c:UN) (hk:H1.get id=some k) (hf:k.fz=false) (hc:k.P[i]?=some c) (hq:H1.get q=some kq) (hn:c[off]?=some (.win q kq.P.length 0 hi)) (hqf:kq.fz=false) (hne:id≠q):Ghosts H (BX H1 id i off q hi)
 | step {H H1:AHeap} (h:Ghosts H H1) (id i off ty sz:Nat) (k:Blk) (c:UN) (hk:H1.get id=some k) (hf:k.fz=false) (hc:k.P[i]?=some c) (hn:c[off]?=some .nil):Ghosts H (H9 H1 id i off ty sz)
inductive GhE:eB->AHeap->eB->AHeap->Prop
 | gh {e:eB} {H H':AHeap} (h:Ghosts H H'):GhE e H e H'
 | frz {e e1:eB} {H H1:AHeap} (h:GhE e H e1 H1) (t id n:Nat) (k:Blk) (he:e1 t=.own id n) (hk:H1.get id=some k) (hn:k.P.length=n):GhE e H (oO e1 (some t) (.list k.P)) (H1.frz id)
def tS (next:eB->AHeap->Prop)(Q:Exit->eB->AHeap->Prop):Exit->eB->AHeap->Prop
 | .normal,e,H=>next e H
 | ex,e,H=>Q ex e H
def Ch (id:Nat)(Q:Exit->eB->AHeap->Prop):Exit->eB->AHeap->Prop
 | .exit id',e,H=>if id'=id then Q .normal e H else Q (.exit id') e H
 | ex,e,H=>Q ex e H
def pI (P:Program)(c:Cfg):Code->(Exit->eB->AHeap->Prop)->eB->AHeap->Prop
 | .skip,Q,e,H=>Q .normal e H
 | .region id ops dr,Q,e,H =>
  if dr then kW P c.own ops (c.sp id) H.next 0 ops.toList [] e { H with next:=H.next+ops.size } (Q .normal)
  else oI P c.own ops ops.toList e H (Q .normal)
 | .seq a b,Q,e,H=>pI P c a (tS (pI P c b Q) Q) e H
 | .cond x a b,Q,e,H=>match fP e x with
  | .bool t=>(t=true->pI P c a Q e H)/\(t=false->pI P c b Q e H)
  | _=>False
 | .block id b,Q,e,H=>pI P c b (Ch id Q) e H
 | .loop b,Q,e,H=>∃ I:Nat->eB->AHeap->Prop,(∃ e' H',GhE e H e' H'/\∃ k,I k e' H')/\∀ k e' H',I k e' H'->pI P c b (tS (λe'' H''=>∃ e3 H3,GhE e'' H'' e3 H3/\∃ k',k'<k/\I k' e3 H3) Q) e' H'
 | .exit id,Q,e,H=>Q (.exit id) e H
 | .ret,Q,e,H=>Q .ret e H
 | _,_,_,_=>False
def qP (c:Cfg)(n:Nat):Code->Bool
 | .region id ops dr=>(ops.toList.all λo=>sG n o.dst)&&(!dr||xT c.own ops (c.sp id))
 | .seq a b=>qP c n a&&qP c n b
 | .cond _ a b=>qP c n a&&qP c n b
 | .block _ b=>qP c n b
 | .loop b=>qP c n b
 | _=>true
section
variable {P:Program} {c:Cfg} {n:Nat} {M0:Nat→Prop}
theorem jE {x:Code}{Q Q':Exit->Act->World->Prop}{a:Act}{w:World}(h:x.wp P Q a w)(hq:∀ e a w,Q e a w->Q' e a w):x.wp P Q' a w:=wp_mono h hq
theorem gU {p:Nat->Prop}(h:∃ k,p k):∃ k,p k/\∀ j,j<k->¬ p j:=by
 obtain ⟨k,hk⟩:=h;induction k using Nat.strongRecOn with
 | _ k ih =>
  grind
def Sv (n:Nat)(M0:Nat->Prop)(H0:AHeap)(σ0:Nat->Option Ow)(w0:World)(Q:Exit->eB->AHeap->Prop)(ex:Exit)(a:Act)(w:World):Prop:=Came n M0 H0 σ0 w0 (Q ex) a w
theorem yK {sz:Nat}(d:D)(off:Nat)(c:UN):∀ (es:UE) (i:Nat),(∀ c∈es,c.length=sz)->es[i]?=some c->off<sz->(es.set i (c.set off d)).flatten=es.flatten.set (i * sz+off) d
 | [],i,_,h,_=>by simp at h
 | a :: es,0,hl,h,ho=>by
  simp at h;subst h;have:=hl a aE;simp only [wH,fH,Nat.zero_mul,fA];rw [List.set_append_left _ _ aD]
 | a :: es,i+1,hl,h,ho=>by
  have ha:=hl a aE;simp at h;have ih:=yK d off c es i (λc hc=>hl c (by simp [hc])) h ho;simp only [EE,fH,ih];rw [nI _ _ (by rw [Nat.add_mul];omega)];congr 2;rw [ha,Nat.add_mul];omega
theorem Pa {H:AHeap}{σ:Nat->Option Ow}{w:World}(B:Rel M0 H σ w){f i a ty sz:Nat}{k:Blk}{m:UN}(z:H.get f=some k)(X:k.fz=false)(r:k.P[i]?=some m)(hn:m[a]?=some .nil) :
  ∃ σ',Rel M0 (H9 H f i a ty sz) σ' w/\Stp σ w σ' w/\Keeps (dQ M0 H σ) σ H.D w (dQ M0 (H9 H f i a ty sz) σ') σ' (H9 H f i a ty sz).D w:=by
 have A:¬ H.D H.next:=λh=>nG _ (B.b4 _ h);have I:H.D f:=aY λhn=>by rw [(B.ce f hn).2] at z;cases z
 have y:f≠H.next:=λh=>A (h ▸ I);obtain ⟨S,R,M⟩:=Rel.push B H.next A (w':=w) rfl rfl rfl (bF _) (λ_ _=>rfl) ⟨ty,sz,[],false⟩ ⟨0,.slice none 0 0,sz,ty⟩ (λb hb=>by simp [Ow.block,Value.ownBlock] at hb) rfl rfl rfl (λc r=>by simp at r) []
  ⟨by simp,.inl ⟨rfl,rfl⟩⟩ aE ⟨rfl,λj u d hu=>by simp at hu⟩
 obtain ⟨o,U,l⟩:=B.aj f k z;obtain ⟨N,t,C,v⟩:=l.row;have G:(H.push H.next ⟨ty,sz,[],false⟩).get f=some k:=by simp [AHeap.push,y,z]
 have E:(λi=>if i=H.next then some (⟨0,.slice none 0 0,sz,ty⟩:Ow) else σ i) f=some o:=by simp [y,U]
 have n:=l.F m (aK r);have g:a<o.F:=by rw [<- n];exact (aO.1 hn).1
 have p:∀ c∈k.P.set i (m.set a (.own H.next 0)),c.length=o.F:=λc K=>by
  rcases oB K with h|h
  .exact l.F c h
  grind
 have J:=yK (D.own H.next 0) a m k.P i l.F r g;obtain ⟨Q,P,O⟩:=Rel.put S G X E { k with P:=k.P.set i (m.set a (.own H.next 0)) } o ⟨rfl,rfl,rfl,bF _,λ_ _ _=>rfl⟩ (λb hb=>.inl hb) (.inl rfl) (by simp [l.ah]) l.ty l.Y p N (bZ t) C (by
   have e:=v.q M;simp only;rw [J];refine ⟨by simpa using e.len,λj u d hu q=>?_⟩;rw [eI] at q;split at q
   .rename_i V;split at q
    .cases q
     have x:k.P.flatten[j]?=some .nil:=by
      rw [<- V,nY k.P i m l.F r a g];exact hn
     have T:=e.Z j u _ hu x;cases T
     exact .own _ _ _ (.inl rfl) rfl λo' ho'=>by simp at ho';subst ho';exact .inr ⟨rfl,rfl⟩
    .cases q
   .exact e.Z j u d hu q)
 have W:H9 H f i a ty sz=(H.push H.next ⟨ty,sz,[],false⟩).put f { k with P:=k.P.set i (m.set a (.own H.next 0)) }:=by
  simp only [H9,z,r,Option.getD_some];unfold AHeap.push AHeap.put;grind
 rw [W];exact ⟨_,Q,R.trans P,M.trans O⟩
theorem DX {sz:Nat}:∀ (es:UE) (n:Nat),(∀ c∈es,c.length=sz)->(es.take n).flatten=es.flatten.take (n * sz)
 | [],n,_=>by simp
 | a :: es,0,_=>by simp
 | a :: es,n+1,h=>by
  have ha:=h a aE;rw [uO,fH,fH,DX es n λc hc=>h c (by simp [hc]),Nat.add_mul,Nat.one_mul,Nat.add_comm,<- ha,List.take_length_add_append]
theorem SC {H:AHeap}{σ:Nat->Option Ow}{w:World}(hR:Rel M0 H σ w){q hi n:Nat}{kq:Blk}{oq:Ow}(hq:H.get q=some kq)(hqf:kq.fz=false)(hoq:σ q=some oq)(hn:¬ H.D n){v:Value}(hh:hi<=kq.P.length)(hv:TW oq v kq.P.length 0 hi) :
  let σ':Nat->Option Ow:=λi=>if i=n then some ⟨hi,v,oq.F,oq.ty⟩ else if i=q then none else σ i
  Rel M0 ((H.drop q).push n ⟨kq.ty,kq.Y,kq.P.take hi,false⟩) σ' w/\Stp σ w σ' w/\Keeps (dQ M0 H σ) σ H.D w (dQ M0 ((H.drop q).push n ⟨kq.ty,kq.Y,kq.P.take hi,false⟩) σ') σ' ((H.drop q).push n ⟨kq.ty,kq.Y,kq.P.take hi,false⟩).D w:=by
 intro σ';have hqal:H.D q:=aY λh=>by rw [(hR.ce q h).1] at hoq;cases hoq
 have hqn:q≠n:=λe=>hn (e ▸ hqal);have hblk:∀ b,v.ownBlock=some b->oq.block=some b:=λb hb=>by
  rcases hv with ⟨_,rfl,_⟩|⟨b',cap,h1,h2,rfl⟩
  .simp [Value.ownBlock] at hb
  .simp only [Value.ownBlock] at hb;simp only [Ow.block,h1,Value.ownBlock];rw [<- hb];split<;>rfl
 have hmut:∀ b,dQ M0 ((H.drop q).push n ⟨kq.ty,kq.Y,kq.P.take hi,false⟩) σ' b->dQ M0 H σ b:=by
  rintro b (hm|⟨i,k',o',hk',hf,ho',hb'⟩)
  .exact .inl hm
  .by_cases h1:i=n
   .simp only [σ',h1,if_true,bH] at ho';subst ho';exact .inr ⟨q,kq,oq,hq,hqf,hoq,hblk b hb'⟩
   .by_cases h2:i=q
    .simp only [σ',h2,if_false,if_true,hqn] at ho';cases ho'
    .simp only [σ',h1,h2,if_false] at ho';simp only [AHeap.push,AHeap.drop,h1,h2,if_false] at hk';exact .inr ⟨i,k',o',hk',hf,ho',hb'⟩
 have hkeep:Keeps (dQ M0 H σ) σ H.D w (dQ M0 ((H.drop q).push n ⟨kq.ty,kq.Y,kq.P.take hi,false⟩) σ') σ' ((H.drop q).push n ⟨kq.ty,kq.Y,kq.P.take hi,false⟩).D w:=by
  refine ⟨λad u hm hu=>⟨λh=>hm (hmut _ h),hu⟩,λi o' hi' ho'=>?_,λi hi'=>.inr hi'⟩;have h1:i≠n:=λe=>hn (e ▸ hi');by_cases h2:i=q
  .simp only [σ',h2,if_true,hqn,if_false] at ho';cases ho'
  .simp only [σ',h1,h2,if_false] at ho';exact ⟨o',ho',.inl rfl⟩
 have hold:∀ {i o'},i≠n->σ' i=some o'->i≠q/\σ i=some o':=λ {i o'} h1 ho'=>by
  by_cases h2:i=q
  .simp only [σ',h2,if_true,hqn,if_false] at ho';cases ho'
  .simp only [σ',h1,h2,if_false] at ho';exact ⟨h2,ho'⟩
 obtain ⟨o2,ho2,l⟩:=hR.aj q kq hq;rw [hoq] at ho2;cases ho2
 obtain ⟨xs,hrow,hx1,hrep⟩:=l.row;refine ⟨⟨λi hi'=>?_,λi hi'=>?_,λi k' hk'=>?_,λi j oi oj b hi' hj' hbi hbj=>?_,λi oi b hi' hbi=>?_,hR.m0⟩,⟨rfl,rfl,rfl,bF _,λ_ _ _=>rfl,λi o' b ho' hb'=>?_⟩,hkeep⟩
 .have hi2:¬ (i=n\/H.D i):=hi';have h1:i≠n:=λe=>hi2 (.inl e);have h2:i≠q:=λe=>hi2 (.inr (e ▸ hqal));simp only [σ',AHeap.push,AHeap.drop,h1,h2,if_false];exact hR.ce i λe=>hi2 (.inr e)
 .have hi2:i=n\/H.D i:=hi';have he:((H.drop q).push n ⟨kq.ty,kq.Y,kq.P.take hi,false⟩).next=if n<H.next then H.next else n+1:=rfl
  rw [he];rcases hi2 with rfl|hi2
  .by_cases h:i<H.next
   .rw [if_pos h];exact h
   .rw [if_neg h];omega
  .have:=hR.b4 i hi2;by_cases h:n<H.next
   .rw [if_pos h];exact this
   .rw [if_neg h];omega
 .by_cases h1:i=n
  .simp only [AHeap.push,h1,if_true,bH] at hk';subst hk';refine ⟨⟨hi,v,oq.F,oq.ty⟩,by simp [σ',h1],by simp;omega,l.ty,l.Y,λc hc=>l.F c (dE hc),xs.take (hi * oq.F),⟨?_,?_⟩,λu hu=>hx1 u (dE hu),?_⟩
   .have:=hrow.1;have h2:hi * oq.F<=kq.P.length * oq.F:=fU _ hh;simp only [dH];rw [Nat.min_eq_left hh,Nat.min_eq_left aD]
   .have hm:(kq.P.take hi).length=hi:=by simp;omega
    simp only [hm];rcases hv with ⟨h1,h2,h3⟩|⟨b',cap,h1,h2,h3⟩
    .exact .inl ⟨h2,h3⟩
    .rcases hrow.2 with ⟨hn0,_⟩|⟨g,cap',cur,e1,e2,e3,e4,e5,e6,e7⟩
     .rw [h1] at hn0;cases hn0
     .rw [h1] at e1;cases e1
      refine .inr ⟨b',cap,cur,?_,eP _,e3,aD,e5,e6,?_⟩
      .rw [h3];simp
      .rw [<- e7,List.take_take,Nat.min_eq_left (fU _ hh)]
   .have hr:=hrep.q hkeep;refine ⟨?_,λj u d hu hd=>?_⟩
    .simp only;rw [DX kq.P hi l.F];simp [hr.len]
    .simp only at hd;rw [DX kq.P hi l.F,b8] at hd;rw [b8] at hu;split at hd
     .rename_i hj;rw [if_pos hj] at hu;exact hr.Z j u d hu hd
     .cases hd
  .by_cases h2:i=q
   .simp only [AHeap.push,AHeap.drop,h2,if_false,if_true,hqn] at hk';cases hk'
   .simp only [AHeap.push,AHeap.drop,h1,h2,if_false] at hk';obtain ⟨o',ho',l'⟩:=hR.aj i k' hk';obtain ⟨xs',a1,a2,a3⟩:=l'.row;exact ⟨o',by simp [σ',h1,h2,ho'],l'.ah,l'.ty,l'.Y,l'.F,xs',a1,a2,a3.q hkeep⟩
 .by_cases h1:i=n<;>by_cases h2:j=n
  .rw [h1,h2]
  .simp only [σ',h1,if_true,bH] at hi';subst hi';obtain ⟨h3,h4⟩:=hold h2 hj';exact absurd (hR.inj j q oj oq b h4 hoq hbj (hblk b hbi)) h3
  .simp only [σ',h2,if_true,bH] at hj';subst hj';obtain ⟨h3,h4⟩:=hold h1 hi';exact absurd (hR.inj i q oi oq b h4 hoq hbi (hblk b hbj)) h3
  .exact hR.inj i j oi oj b (hold h1 hi').2 (hold h2 hj').2 hbi hbj
 .by_cases h1:i=n
  .simp only [σ',h1,if_true,bH] at hi';subst hi';exact hR.lt q oq b hoq (hblk b hbi)
  .exact hR.lt i oi b (hold h1 hi').2 hbi
 .by_cases h1:i=n
  .simp only [σ',h1,if_true,bH] at ho';subst ho';exact .inr ⟨q,oq,hoq,hblk b hb'⟩
  .exact .inr ⟨i,o',(hold h1 ho').2,hb'⟩
theorem Mw {H:AHeap}{σ:Nat->Option Ow}{w:World}(J:Rel M0 H σ w){f i a q e:Nat}{k kq:Blk}{s:UN}(G:H.get f=some k)(hf:k.fz=false)(L:k.P[i]?=some s)(R:H.get q=some kq)
  (hn:s[a]?=some (.win q kq.P.length 0 e)) (Q:kq.fz=false) (F:f≠q) :
  ∃ σ',Rel M0 (BX H f i a q e) σ' w/\Stp σ w σ' w/\Keeps (dQ M0 H σ) σ H.D w (dQ M0 (BX H f i a q e) σ') σ' (BX H f i a q e).D w:=by
 have I:¬ H.D H.next:=λh=>nG _ (J.b4 _ h);have X:H.D f:=aY λhn=>by rw [(J.ce f hn).2] at G;cases G
 have r:f≠H.next:=λh=>I (h ▸ X);obtain ⟨K,C,lq⟩:=J.aj q kq R;obtain ⟨o,ho,l⟩:=J.aj f k G;obtain ⟨M,B,A,m⟩:=l.row;have t:=l.F s (aK L);have p:a<o.F:=by rw [<- t];exact (aO.1 hn).1
 have n:k.P.flatten[i * o.F+a]?=some (.win q kq.P.length 0 e):=by rw [nY k.P i s l.F L a p];exact hn
 have U:i * o.F+a<M.length:=by rw [m.len];exact (aO.1 n).1
 obtain ⟨v,N⟩:∃ v,M[i * o.F+a]?=some v:=⟨_,aA U⟩;have P:=m.Z _ v _ N n;have E:v.oneCell'=true:=A v (aK N);obtain ⟨hh,hw⟩:e<=kq.P.length/\TW K v kq.P.length 0 e:=by
  cases P
  rename_i _ _ V h;refine ⟨V.2,?_⟩;rcases h K C with h'|⟨_,h'⟩
  .have:=lq.ah;omega
  .exact h'
 obtain ⟨p1,p2,p3⟩:=SC J R Q C I hh hw;have W:((H.drop q).push H.next ⟨kq.ty,kq.Y,kq.P.take e,false⟩).get f=some k:=by simp [AHeap.push,AHeap.drop,r,F,G]
 have S:(λi=>if i=H.next then some (⟨e,v,K.F,K.ty⟩:Ow) else if i=q then none else σ i) f=some o:=by simp [r,F,ho]
 have x:∀ c∈k.P.set i (s.set a (.own H.next e)),c.length=o.F:=λc Z=>by
  rcases oB Z with h|h
  .exact l.F c h
  grind
 have Y:=yK (D.own H.next e) a s k.P i l.F L p;obtain ⟨q1,q2,q3⟩:=Rel.put p1 W hf S { k with P:=k.P.set i (s.set a (.own H.next e)) } o ⟨rfl,rfl,rfl,bF _,λ_ _ _=>rfl⟩ (λb hb=>.inl hb) (.inl rfl) (by simp [l.ah]) l.ty l.Y x M (bZ B) A (by
   have g:=m.q p3;simp only;rw [Y];refine ⟨by simpa using g.len,λj u d O y=>?_⟩;rw [eI] at y;split at y
   .rename_i hj;split at y
    .cases y
     rw [<- hj,N] at O;cases O
     exact .own _ _ _ (.inl rfl) E λo' ho'=>by simp at ho';subst ho';exact .inr ⟨rfl,rfl⟩
    .cases y
   .exact g.Z j u d O y)
 have hg:BX H f i a q e=((H.drop q).push H.next ⟨kq.ty,kq.Y,kq.P.take e,false⟩).put f { k with P:=k.P.set i (s.set a (.own H.next e)) }:=by
  simp only [BX,G,R,L,Option.getD_some]
 rw [hg];exact ⟨_,q1,p2.trans q2,p3.trans q3⟩
theorem Dh {H H':AHeap}(j:Ghosts H H'){σ:Nat->Option Ow}{w:World}(l:Rel M0 H σ w):∃ σ',Rel M0 H' σ' w/\Stp σ w σ' w/\Keeps (dQ M0 H σ) σ H.D w (dQ M0 H' σ') σ' H'.D w:=by
 induction j with
 | refl=>exact ⟨σ,l,.refl _ _,.refl _ _ _ _⟩
 | trunc h id i off q hi k kq c hk hf hc hq hn hqf hne ih =>
  obtain ⟨σ1,g,f,e⟩:=ih;obtain ⟨σ2,d,b,a⟩:=Mw g hk hf hc hq hn hqf hne;exact ⟨σ2,d,f.trans b,e.trans a⟩
 | step h id i off ty sz k c hk hf hc hn ih =>
  obtain ⟨σ1,g,f,e⟩:=ih;obtain ⟨σ2,d,b,a⟩:=Pa (ty:=ty) (sz:=sz) g hk hf hc hn;exact ⟨σ2,d,f.trans b,e.trans a⟩
theorem St.keeps {H H':AHeap}{σ σ':Nat->Option Ow}{w:World}{e:eB}{a:Act}(hS:St n M0 H σ w e a)(hR:Rel M0 H' σ' w)(hk:Keeps (dQ M0 H σ) σ H.D w (dQ M0 H' σ') σ' H'.D w):St n M0 H' σ' w e a :=
 ⟨hR,λt=>(hS.dl t).q hk,hS.defers,hS.size⟩
theorem KO {e p:eB}{H H':AHeap}(r:GhE e H p H'){σ:Nat->Option Ow}{w:World}{a:Act}(j:St n M0 H σ w e a) :
  ∃ σ',St n M0 H' σ' w p a/\Stp σ w σ' w/\Keeps (dQ M0 H σ) σ H.D w (dQ M0 H' σ') σ' H'.D w:=by
 induction r with
 | gh h =>
  obtain ⟨σ',f,d,o⟩:=Dh h j.bx;exact ⟨σ',j.keeps f o,d,o⟩
 | frz h t id n k he hk hn ih =>
  obtain ⟨σ1,m,v,s⟩:=ih j;obtain ⟨f,d,_,x⟩:=KP m.bx id;obtain ⟨A,z,y,q⟩:=(x id).2 k hk (.inr rfl);have b:=m.keeps f d;refine ⟨σ1,⟨b.bx,λu=>?_,b.defers,b.size⟩,v,s.trans d⟩;have i:=b.dl u;rename_i l _ _ _;by_cases c:u=t
  .subst c;have g:oO l (some u) (D.list k.P) u=.list k.P:=by simp [oO]
   rw [he] at i;rw [g,<- q];exact B1 f i z y (by rw [q];exact hn)
  .have g:oO l (some t) (D.list k.P) u=l u:=by simp [oO,c]
   rw [g];exact i
theorem pU (hm:P.follows .mixedOrders=true):∀ (x:Code) (Q:Exit->eB->AHeap->Prop) (e:eB) (H:AHeap),pI P c x Q e H->qP c n x=true ->
  ∀ (σ:Nat->Option Ow) (w:World) (a:Act),St n M0 H σ w e a->x.wp P (Sv n M0 H σ w Q) a w
 | .skip,Q,e,H,h,_,σ,w,a,hS=>wp_skip ⟨e,H,σ,h,hS,.refl _ _,.refl _ _ _ _⟩
 | .region id ops dr,Q,e,H,h,hok,σ,w,a,hS=>by
  simp only [qP,aL,b9,c7,cX] at hok;unfold pI at h;cases dr with
  | false =>
   simp only [fL,if_false] at h;exact wp_region_list (IN ops.toList e H _ h hok.1 σ w a hS λa' w' hc=>hc)
  | true =>
   simp only [if_true] at h;exact Q1 hm (hok.2.resolve_left aE) hok.1 h hS λa' w' hc=>hc
 | .seq x y,Q,e,H,h,hok,σ,w,a,hS=>by
  simp only [qP,aL] at hok;unfold pI at h;refine wp_seq (jE (pU hm x _ e H h hok.1 σ w a hS) λex a' w' hc=>?_);cases ex<;>first|exact hc|skip
  obtain ⟨e',H',σ',hq,hS',hst,hk⟩:=hc;exact jE (pU hm y Q e' H' hq hok.2 σ' w' a' hS') λex a'' w'' hc'=>Came.trans hst hk hc'
 | .cond x y z,Q,e,H,h,hok,σ,w,a,hS=>by
  simp only [qP,aL] at hok;unfold pI at h;have hx:=hS.b2.ev x;cases hv:fP e x<;>simp only [hv] at h<;>try (exact h.elim)
  rename_i t;rw [hv] at hx;have hc:a.eval x=.bool t:=by generalize a.eval x=v at hx;cases hx;rfl
  exact wp_cond_split hc (λht=>pU hm y Q e H (h.1 ht) hok.1 σ w a hS) λht=>pU hm z Q e H (h.2 ht) hok.2 σ w a hS
 | .block id b,Q,e,H,h,hok,σ,w,a,hS=>by
  unfold pI at h;refine wp_block (jE (pU hm b _ e H h hok σ w a hS) λex a' w' hc=>?_);cases ex<;>first|exact hc|skip
  rename_i id';by_cases hid:id'=id
  .subst hid;show (if id'=id' then Sv n M0 H σ w Q .normal a' w' else _);rw [if_pos rfl];exact Came.mono hc λe' H' h=>by
    have h':(if id'=id' then Q .normal e' H' else Q (.exit id') e' H'):=h;rw [if_pos rfl] at h';exact h'
  .show (if id'=id then Sv n M0 H σ w Q .normal a' w' else Sv n M0 H σ w Q (.exit id') a' w');rw [if_neg hid];exact Came.mono hc λe' H' h=>by
    have h':(if id'=id then Q .normal e' H' else Q (.exit id') e' H'):=h;rw [if_neg hid] at h';exact h'
 | .loop b,Q,e,H,h,hok,σ,w,a,hS=>by
  unfold pI at h;obtain ⟨I,⟨e1,H1,hgh,k0,h0⟩,hI⟩:=h;obtain ⟨σ1,hS1,g2,g3⟩:=KO hgh hS;let J:Nat->Act->World->Prop:=λk a' w'=>Came n M0 H σ w (I k) a' w'
  have hJ0:J k0 a w:=⟨e1,H1,σ1,h0,hS1,g2,g3⟩
  classical
  let μ:Act->World->Nat:=λa' w'=>if hx:∃ k,J k a' w' then Classical.choose (gU hx) else 0
  refine wp_loop (λa' w'=>∃ k,J k a' w') μ ⟨k0,hJ0⟩ λa' w' hx=>?_;have hμ:μ a' w'=Classical.choose (gU hx):=by simp only [μ,dif_pos hx]
  obtain ⟨e',H',σ',hi,hS',hst,hk⟩:=(zM (gU hx)).1;refine jE (pU hm b _ e' H' (hI _ e' H' hi) hok σ' w' a' hS') λex a'' w'' hc=>?_;have hc':=Came.trans hst hk hc;cases ex<;>first|exact hc'|skip
  obtain ⟨e20,H20,σ20,⟨e2,H2,hgh2,k',hlt,hk'⟩,hS2,hst2,hk2⟩:=hc';obtain ⟨σ2,j1,j2,j3⟩:=KO hgh2 hS2;have rest:=xa1 j1 (hst2.trans j2) (hk2.trans j3);have hx2:∃ k,J k a'' w'':=⟨k',e2,H2,σ2,hk',rest⟩;refine ⟨hx2,?_⟩;have:μ a'' w''=Classical.choose (gU hx2):=by simp only [μ,dif_pos hx2]
  rw [this,hμ];refine Nat.lt_of_le_of_lt ?_ hlt;rcases bX k' (Classical.choose (gU hx2)) with hlt'|hge
  .exact absurd ⟨e2,H2,σ2,hk',rest⟩ ((zM (gU hx2)).2 k' hlt')
  .exact hge
 | .exit id,Q,e,H,h,_,σ,w,a,hS=>wp_exit ⟨e,H,σ,h,hS,.refl _ _,.refl _ _ _ _⟩
 | .ret,Q,e,H,h,_,σ,w,a,hS=>wp_ret ⟨e,H,σ,h,hS,.refl _ _,.refl _ _ _ _⟩
 | .rangeFunc ..,Q,e,H,h,_,_,_,_,_=>h.elim
 | .scope ..,Q,e,H,h,_,_,_,_,_=>h.elim
 | .label ..,Q,e,H,h,_,_,_,_,_=>h.elim
 | .goto ..,Q,e,H,h,_,_,_,_,_=>h.elim
 | .refuse ..,Q,e,H,h,_,_,_,_,_=>h.elim
end
end Go.Abs
end
section
namespace Go.Abs
def DH (P:Program):List ResultVar->eB->AHeap->(UN->Prop)->Prop
 | [],_,_,K=>K []
 | .tmp t :: r,e,H,K=>DH P r e H λl=>K (e t :: l)
 | .cell a ty :: r,e,H,K=>(o8 P ty (e a) H).cond/\DH P r e H λl=>K ((o8 P ty (e a) H).val :: l)
def GI:UN->D
 | [d]=>d
 | l=>.tup l
def SO (P:Program)(rs:List ResultVar)(Q:D->AHeap->Prop):Exit->eB->AHeap->Prop
 | .normal,e,H=>DH P rs e H λl=>Q (GI l) H
 | .ret,e,H=>DH P rs e H λl=>Q (GI l) H
 | _,_,_=>False
def Dl (args:UN):eB:=λt=>args.getD t .junk
def D4 (tmps:Array Value):ResultVar->Sem Value
 | .tmp t=>Pure.pure (tmps.getD t undef)
 | .cell x t=>do loadVar t (<- asAddr (tmps.getD x undef))
section
variable {P:Program} {M0:Nat→Prop} {H:AHeap} {σ:Nat→Option Ow} {w:World} {n:Nat} {e:eB} {a:Act}
theorem yS (hS:St n M0 H σ w e a):∀ (rs:List ResultVar) (K:UN->Prop),DH P rs e H K ->
  ∃ vs l,Sem.run P (rs.mapM (D4 a.tmps)) w=Result.ok vs w/\RepL (dQ M0 H σ) σ H.D w vs l/\K l
 | [],K,h=>⟨[],[],by simp,⟨rfl,λj u d hu=>by simp at hu⟩,h⟩
 | .tmp t :: rs,K,h=>by
  obtain ⟨vs,l,h1,h2,h3⟩:=yS hS rs _ h;refine ⟨a.tmps.getD t undef :: vs,e t :: l,by simp [List.mapM_cons,D4,h1],⟨by simp [h2.len],λj u d hu hd=>?_⟩,h3⟩;cases j with
  | zero=>simp only [mK,bH] at hu hd;subst hu;subst hd;exact hS.dl t
  | succ j=>exact h2.Z j u d (bZ hu) (bZ hd)
 | .cell x t :: rs,K,h=>by
  obtain ⟨vs,l,h1,h2,h3⟩:=yS hS rs _ h.2;obtain ⟨_,_,v,hr,hv⟩:=OT (P:=P) hS.bx (hS.dl x) h.1;have hld:Sem.run P (D4 a.tmps (.cell x t)) w=.ok v w:=by
   simp only [D4];unfold Instr.loadAt at hr;generalize a.tmps.getD x undef=q at hr ⊢;cases q with
   | pointer p=>cases p with
    | some ad=>simpa [Instr.sureAddr,asAddr] using hr
    | none=>simp [Instr.sureAddr,stuck] at hr
   | _=>simp [Instr.sureAddr,stuck] at hr
  refine ⟨v :: vs,_ :: l,by simp [List.mapM_cons,hld,h1],⟨by simp [h2.len],λj u d hu hd=>?_⟩,h3⟩;cases j with
  | zero=>simp only [mK,bH] at hu hd;subst hu;subst hd;exact hv
  | succ j=>exact h2.Z j u d (bZ hu) (bZ hd)
theorem ER {fn:Func}{vs:List Value}{l:UN}(h:Sem.run P (fn.results.toList.mapM (D4 a.tmps)) w=.ok vs w)(b:RepL (dQ M0 H σ) σ H.D w vs l) :
  ∃ v,(results fn a.tmps).run P w=.ok v w/\RepV (dQ M0 H σ) σ H.D w v (GI l):=by
 have c:results fn a.tmps=(do let vs <- fn.results.mapM (D4 a.tmps);Pure.pure (if h:vs.size=1 then vs[0] else .tuple vs)):=rfl;rw [c,Array.mapM_eq_mapM_toList];refine ⟨if h:vs.toArray.size=1 then vs.toArray[0] else .tuple vs.toArray,by simp [h],?_⟩;by_cases f:vs.length=1
 .match vs,f,b with
  | [v],_,b =>
   match l,b with
   | [d],b=>simpa [GI] using b.Z 0 v d rfl rfl
   | [],b=>have:=b.len;simp at this
   | _ :: _ :: _,b=>have:=b.len;simp at this
 .have e:¬ vs.toArray.size=1:=by simpa using f
  rw [dif_neg e];have g:GI l=.tup l:=by
   match l,b with
   | [],_=>rfl
   | [d],b=>have:=b.len;simp at this;exact absurd this f
   | _ :: _ :: _,_=>rfl
  rw [g];exact .tup vs l b.len b.Z
theorem WN {n:Nat}{vals:List Value}{args:UN}(e:Rel M0 H σ w)(a:RepL (dQ M0 H σ) σ H.D w vals args)(c:args.length<=n):St n M0 H σ w (Dl args) { tmps:=vals.toArray++Array.replicate (n - vals.toArray.size) undef,defers:=[] }:=by
 refine ⟨e,λt=>?_,rfl,by simp [a.len];omega⟩;simp only [Dl];by_cases b:t<vals.length
 .have h1:vals[t]?=some vals[t]:=aA b;have d:args[t]?=some (args[t]'(by rw [<- a.len];exact b)):=aA _;have:=a.Z t _ _ h1 d;rw [List.getD_eq_getElem?_getD,d];simp only [Option.getD_some,mW];rw [Array.getElem?_append_left (bZ b)];simpa [h1] using this
 .rw [List.getD_eq_getElem?_getD,bY (by rw [<- a.len];omega)];exact .junk _
theorem V5 {l r:List ResultVar}(h:l=r:=by first|exact @rfl (List Go.ResultVar) [.tmp _]|exact @rfl (List Go.ResultVar) []|exact @rfl (List Go.ResultVar) [.tmp _,.tmp _]|exact @rfl (List Go.ResultVar) [.cell _ _,.tmp _]|exact @rfl (List Go.ResultVar) [.cell _ _]|exact @rfl (List Go.ResultVar) [.cell _ _,.cell _ _,.tmp _]|exact @rfl (List Go.ResultVar) [.cell _ _,.cell _ _]|exact @rfl (List Go.ResultVar) [.tmp _,.cell _ _,.tmp _]|exact @rfl (List Go.ResultVar) [.tmp _,.tmp _,.tmp _]|exact @rfl (List Go.ResultVar) [.cell _ _,.tmp _,.tmp _]|exact @rfl (List Go.ResultVar) [.cell _ _,.cell _ _,.cell _ _]|exact @rfl (List Go.ResultVar) [.cell _ _,.cell _ _,.cell _ _,.tmp _]):l=r:=h
theorem aJ {f:FuncId}{fn:Func}{x:Code}{rs:List ResultVar}{cfg:Cfg}{args:UN}{Q:D->AHeap->Prop}(y:P.follows .mixedOrders=true)(r:P.funcs[f]?=some fn)(s:fn.body=some x)
  (n:(fn.name=="runtime.NumGoroutine")=false) (c:args.length<=fn.ntmps) (m:qP cfg fn.ntmps x=true)
  (h:pI P cfg x (SO P rs Q) (Dl args) H) (u:fn.results.toList=rs:=by exact V5):ACalls P f args H Q:=by
 subst u;refine ⟨⟨fn,r,n,by simp [s]⟩,λg σ w q E B=>calls_of_wp r s ?_⟩;have C:=WN E B c;refine jE (pU y x _ _ H h m σ w _ C) λJ t b A=>?_;obtain ⟨K,p,σ',e,a,k,z⟩:=A;have o:DH P fn.results.toList K p (λl=>Q (GI l) p)->t.defers=[]/\∃ v,(results fn t.tmps).run P b=.ok v b /\
   ∃ v2 d H2 σ2,Ending.returned v=.returned v2/\Rel g H2 σ2 b/\RepV (dQ g H2 σ2) σ2 H2.D b v2 d/\Stp σ w σ2 b/\Keeps (dQ g H σ) σ H.D w (dQ g H2 σ2) σ2 H2.D b/\Q d H2:=by
  intro e;obtain ⟨L,l,I,G,F⟩:=yS a _ _ e;obtain ⟨v,j,i⟩:=ER (fn:=fn) I G;exact ⟨a.defers,v,j,v,_,p,σ',rfl,a.bx,i,k,z,F⟩
 cases J<;>first|exact o e|exact e.elim
end
/-! ### pure contracts -/
theorem DL {l:UN}(h:∀ d∈l,d.Q=true):D.J l=true:=by
 induction l with
 | nil=>rfl
 | cons a l ih=>simp [D.J,h a aE,ih λd hd=>h d (by simp [hd])]
def jL:Nat->Option Ow:=λ_=>none
def t6:Nat->Prop:=λ_=>False
def Pure (P:Program)(f:FuncId)(args:UN)(r:D):Prop :=
 Xj P f/\∀ (M:Nat->Prop) (w:World) (vals:List Value),(∀ b,M b->b<w.heap.size)->RepL M jL t6 w vals args ->
  Calls P f vals.toArray w λe w'=>∃ v,e=.returned v/\RepV M jL t6 w' v r/\RowKit.Below w.heap.size w w'
def Own (P:Program)(f:FuncId)(args:UN)(ty:TypeId)(sz:Nat)(es:UE):Prop :=
 Xj P f/\∀ (M:Nat->Prop) (w:World) (vals:List Value),(∀ b,M b->b<w.heap.size)->RepL M jL t6 w vals args ->
  Calls P f vals.toArray w λe w'=>∃ v xs,e=.returned v/\w'.ownsRow w.heap.size ty sz v es.length xs/\(∀ u∈xs,u.oneCell'=true)/\RepL (λb=>M b\/v.ownBlock=some b) jL t6 w' xs es.flatten/\D.R es=true/\(∀ c∈es,c.length=sz) /\
   RowKit.Below w.heap.size w w'
def oX (H:AHeap):D->D
 | .tup vs=>.tup (vs.map (jG H))
 | d=>jG H d
def D9:D->List Nat
 | .tup vs=>vs.flatMap eG
 | d=>eG d
section
variable {P:Program} {M0:Nat→Prop} {H:AHeap} {σ:Nat→Option Ow} {w:World}
theorem u3 {v:Value}{d:D}(g:Rel M0 H σ w)(b:RepV (dQ M0 H σ) σ H.D w v d)(a:List Nat)(f:∀ i∈D9 d,i∈a) :
  RepV (dQ M0 (f5 a H) σ) σ (f5 a H).D w v (oX H d):=by
 cases d with
 | tup vs =>
  cases b
  rename_i h l k;refine .tup h _ (bZ l) λj u x hu b=>?_;rw [aM,bU] at b;obtain ⟨y,e,rfl⟩:=b;exact nQ g (k j u y hu e) a λi c=>f i (by simp only [D9,bT];exact ⟨y,aK e,c⟩)
 | _=>exact nQ g b a f
theorem Gn (M:Nat->Prop):dQ M .as jL=M:=by
 funext b;exact propext ⟨λh=>h.elim (λh=>h) λ⟨_,_,_,h,_⟩=>by simp [AHeap.as] at h,.inl⟩
theorem Gj (M:Nat->Prop)(w:World)(hM:∀ b,M b->b<w.heap.size):Rel M .as jL w :=
 ⟨λ_ _=>⟨rfl,rfl⟩,λ_ h=>h.elim,λ_ _ h=>by simp [AHeap.as] at h,λ_ _ _ _ _ h=>by simp [jL] at h,λ_ _ _ h=>by simp [jL] at h,hM⟩
theorem AG {σ':Nat->Option Ow}{w':World}(h:Stp jL w σ' w'):RowKit.Below w.heap.size w w' :=
 ⟨h.os,h.tape,h.output,h.size,λb hb=>h.bu b hb λ_ _ h=>by simp [jL] at h⟩
theorem aU {f:FuncId}{args:UN}{r:D}(h:ACalls P f args .as λd H'=>oX H' d=r/\r.Q=true):Pure P f args r:=by
 refine ⟨h.1,λM w vals hM ha=>(h.2 M jL w vals (Gj M w hM) (by rw [Gn];exact ha)).mono λe w' ⟨v,d,H',σ',k,m,g,a,n,j,b⟩=>⟨v,k,?_,AG a⟩⟩;have c:=u3 m g (D9 d) λi hi=>hi;rw [j] at c;exact c.br (λad u hm l=>⟨λh=>hm (.inl h),l⟩) b
theorem CT {f:FuncId}{args:UN}{ty:TypeId}{sz:Nat}{es:UE}
  (h:ACalls P f args .as λd H'=>∃ id k,d=.own id es.length/\H'.get id=some k/\k.P=es/\k.ty=ty/\k.Y=sz/\k.fz=false/\D.R es=true):Own P f args ty sz es:=by
 refine ⟨h.1,λM w vals hM ha=>(h.2 M jL w vals (Gj M w hM) (by rw [Gn];exact ha)).mono λe w' ⟨v,d,H',σ',K,L,H,n,Q,id,k,q,i,r,N,B,y,p⟩=>?_⟩;subst q;subst r;subst N;subst B;obtain ⟨o,x,l⟩:=L.aj id k i;obtain ⟨G,a,t,b⟩:=l.row;cases H
 rename_i _ _ m;rcases m o x with J|⟨_,rfl⟩
 .have:=l.ah;omega
 .refine ⟨o.val,G,K,?_,t,⟨b.len,λj u d hu q=>(b.Z j u d hu q).br (λad u hm A=>⟨λh=>hm (h.elim .inl λh=>.inr ⟨id,k,o,i,y,x,h⟩),A⟩) ?_⟩,p,λc A=>(l.F c A).trans l.Y,AG n⟩
  .rw [<- l.Y];refine ⟨a.1,?_⟩;rcases a.2 with I|⟨g,E,C,r,_,B⟩
   .exact .inl I
   .refine .inr ⟨g,E,C,r,?_,B⟩;rcases n.new id o g x (by simp [Ow.block,r,Value.ownBlock]) with h|⟨_,O,h,_⟩
    .exact h
    .simp [jL] at h
  .obtain ⟨c,z,s⟩:=jX.1 (aK q);exact kF (rS p c z) d s
theorem An {M:Nat->Prop}{N:Nat->Prop}:Keeps M jL t6 w M σ N w:=⟨λ_ _ h k=>⟨h,k⟩,λ_ _ h=>h.elim,λ_ h=>h.elim⟩
theorem iO {M M':Nat->Prop}{N N':Nat->Prop}{σ':Nat->Option Ow}(hM:∀ b,¬ M b->¬ M' b){vs:List Value}{ds:UN}(h:RepL M σ N w vs ds)(hc:D.J ds=true):RepL M' σ' N' w vs ds :=
 ⟨h.len,λj u d hu hd=>(h.Z j u d hu hd).br (λad u hm hc=>⟨hM _ hm,hc⟩) (kF hc d (aK hd))⟩
theorem v6 (a:Rel M0 H σ w):∀ b,dQ M0 H σ b->b<w.heap.size:=by
 rintro b (h|⟨i,k,o,_,_,c,d⟩)
 .exact a.m0 b h
 .exact (a.lt i o b c d).1
theorem tC {f:FuncId}{args:UN}{r:D}{Q:D->AHeap->Prop}(c:Pure P f args r)(b:D.J args=true)(i:Q r H):ACalls P f args H Q:=by
 refine ⟨c.1,λM0 σ w vals hR ha=>(c.2 (dQ M0 H σ) w vals (v6 hR) (iO (λ_ h=>h) ha b)).mono λe w' ⟨v,g,d,a⟩=>?_⟩;obtain ⟨l,k,j⟩:=hR.grow a.os a.tape a.output a.size a.block;exact ⟨v,r,H,σ,g,l,d.q An,k,j,i⟩
theorem CG {M0:Nat->Prop}(hR:Rel M0 H σ w){vals:List Value}{args:UN}(ha:RepL (dQ M0 H σ) σ H.D w vals args)(ids:List Nat)(hi:∀ i∈args.flatMap eG,i∈ids) :
  RepL (dQ M0 (f5 ids H) σ) σ (f5 ids H).D w vals (args.map (jG H)) :=
 ⟨by simpa using ha.len,λj u d hu hd=>by
  rw [aM,bU] at hd;obtain ⟨y,hy,rfl⟩:=hd;exact nQ hR (ha.Z j u y hu hy) ids λi hii=>hi i (bT.2 ⟨y,aK hy,hii⟩)⟩
def D.cC:D->Bool
 | .int .. | .bool _ | .str _ | .nil | .nilp | .nilf=>true
 | _=>false
def D.bd:D->Bool
 | .tup vs=>vs.all D.cC
 | d=>d.cC
theorem KV {M c:Nat->Prop}{N b:Nat->Prop}{σ σ':Nat->Option Ow}{w w':World}{v:Value}{d:D}(h:RepV M σ N w v d)(a:d.cC=true):RepV c σ' b w' v d:=by
 cases h<;>first|(simp [D.cC] at a;done)|constructor
theorem Au {M g:Nat->Prop}{N f:Nat->Prop}{σ σ':Nat->Option Ow}{w w':World}{v:Value}{d:D}(h:RepV M σ N w v d)(a:d.bd=true):RepV g σ' f w' v d:=by
 cases d with
 | tup vs =>
  cases h
  rename_i b e c;simp only [D.bd,b9] at a;exact .tup b vs e λj u x hu hx=>KV (c j u x hu hx) (a x (aK hx))
 | _=>exact KV h a
theorem yU {f:FuncId}{args:UN}{r:D}{Q:D->AHeap->Prop}(c:Pure P f (args.map (jG H)) r)(b:D.J (args.map (jG H))=true)(g:r.bd=true)(k:Q r H):ACalls P f args H Q:=by
 refine ⟨c.1,λM0 σ w vals hR ha=>?_⟩;obtain ⟨o,s,q,p⟩:=gJ (args.flatMap eG) hR;refine (c.2 (dQ M0 (f5 (args.flatMap eG) H) σ) w vals (v6 o) (iO (λ_ h=>h) (CG hR ha _ λi h=>h) b)).mono λe w' ⟨v,j,d,a⟩=>?_;obtain ⟨n,m,l⟩:=hR.grow a.os a.tape a.output a.size a.block;exact ⟨v,r,H,σ,j,n,Au d g,m,l,k⟩
theorem Na {f:FuncId}{args:UN}{r:D}{Q:D->AHeap->Prop}(c:Pure P f (args.map (jG H)) r)(b:D.J (args.map (jG H))=true)(k:Q r (f5 (args.flatMap eG) H)):ACalls P f args H Q:=by
 refine ⟨c.1,λM0 σ w vals hR ha=>?_⟩;obtain ⟨d,o,q,p⟩:=gJ (args.flatMap eG) hR;refine (c.2 (dQ M0 (f5 (args.flatMap eG) H) σ) w vals (v6 d) (iO (λ_ h=>h) (CG hR ha _ λi h=>h) b)).mono λe w' ⟨v,j,g,a⟩=>?_;obtain ⟨n,m,l⟩:=d.grow a.os a.tape a.output a.size a.block;exact ⟨v,r,_,σ,j,n,g.q An,m,o.trans l,k⟩
theorem FC {f:FuncId}{args:UN}{ty:TypeId}{sz:Nat}{es:UE}{Q:D->AHeap->Prop}(S:Own P f args ty sz es)(L:D.J args=true)
  (hQ:Q (.own H.next es.length) (H.push H.next ⟨ty,sz,es,false⟩)):ACalls P f args H Q:=by
 refine ⟨S.1,λM0 σ w vals hR ha=>(S.2 (dQ M0 H σ) w vals (v6 hR) (iO (λ_ h=>h) ha L)).mono λe w' ⟨v,O,he,k,N,y,A,I,C⟩=>?_⟩;have p:w'.ownsRow 0 ty sz v es.length O:=⟨k.1,k.2.imp (λx=>x) λ⟨g,s,r,a,b,c⟩=>⟨g,s,r,a,eP _,c⟩⟩;have M:∀ b,v.ownBlock=some b->w.heap.size<=b:=λb j=>by
  rcases k.2 with E|⟨g,s,r,N,h2,h3⟩
  .rw [E.1] at j;simp [Value.ownBlock] at j
  .rw [N] at j;simp only [Value.ownBlock,bH] at j;omega
 have hG:∀ F,¬ (dQ M0 H σ F\/v.ownBlock=some F)->¬ dQ M0 (H.push H.next ⟨ty,sz,es,false⟩) (λi=>if i=H.next then some ⟨es.length,v,sz,ty⟩ else σ i) F:=by
  intro F J h;rcases h with h|⟨i,Y,X,z,Z,m,j⟩
  .exact J (.inl (.inl h))
  .by_cases q:i=H.next
   .simp only [q,if_true,bH] at m;subst m;exact J (.inr j)
   .simp only [q,if_false] at m;simp only [AHeap.push,q,if_false] at z;exact J (.inl (.inr ⟨i,Y,X,z,Z,m,j⟩))
 have B:D.J es.flatten=true:=DL λd hd=>by
  obtain ⟨c,K,G⟩:=jX.1 hd;exact kF (rS A c K) d G
 obtain ⟨W,V,U⟩:=Rel.dt hR H.next (λh=>nG _ (hR.b4 _ h)) (w':=w') C.os C.tape C.output C.size C.block ⟨ty,sz,es,false⟩ ⟨es.length,v,sz,ty⟩
  M rfl rfl rfl I O p N (λhk=>iO hG y B)
 exact ⟨v,_,_,_,he,W,.own v _ _ (.inl rfl) (by rcases k.2 with ⟨E,_⟩|⟨g,s,r,E,_⟩<;>simp [E,Value.oneCell']) (λo ho=>by simp at ho;subst ho;exact .inr ⟨rfl,rfl⟩),V,U,hQ⟩
end
end Go.Abs
end

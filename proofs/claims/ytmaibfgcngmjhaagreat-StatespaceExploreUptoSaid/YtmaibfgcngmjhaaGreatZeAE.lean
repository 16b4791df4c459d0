/- The abstraction layer, part Q: the theorem on regions that d -/
import Derived.Test.YtmaibfgcngmjhaaGreatZeAD
set_option linter.unusedVariables false
set_option linter.unusedSimpArgs false
section
namespace Go.Abs
theorem Fn {p:Nat->Bool}{i:Nat}:∀ (n:Nat),i<n->p i=true->(∀ k,i<k->k<n->p k=false)->iL p n=some i
 | 0,h,_,_=>by omega
 | n+1,h,hp,hk=>by
  by_cases hi:i=n
  .subst hi;simp [iL,hp]
  .simp only [iL,hk n bL bL,eW,if_false];exact Fn n bL hp λk h1 h2=>hk k h1 bL
section
variable (md:Nat→Bool) (ops:Array Oper) (n0:Nat) (e0:Nat→D) (H0:AHeap) (Hs:Nat→AHeap) (vs:Nat→D) (Fs Ns:Nat→List Nat)
def o6 (i:Nat):Option Tmp:=(ops[i]?).bind (·.dst)
def sI (i:Nat):Bool:=match ops[i]? with|some o=>oP md o|none=>false
def eS (S:Nat->Bool)(m:Nat):Nat->D:=λt =>
 match iL (λk=>S k&&(o6 ops k==some t)) m with
 | some k=>vs k
 | none=>e0 t
def HS (S:Nat->Bool)(m:Nat):AHeap where
 next:=n0+ops.size
 J:=λid=>H0.J id\/∃ k,k<m/\S k=true/\id∈Ns k/\(Hs (k+1)).J id
 get:=λid=>match iL (λk=>S k&&(sI md ops k&&(Fs k).contains id)) m with
  | some k=>(Hs (k+1)).get id
  | none=>H0.get id
end
section
variable {P:Program} {md:Nat→Bool} {ops:Array Oper} {sp:List (Nat × Nat)} {n0:Nat} {es:Nat→Nat→D} {Hs:Nat→AHeap} {vs:Nat→D} {Fs Ns:Nat→List Nat}
theorem oA (i:Nat):ops.toList[i]?=ops[i]?:=bS
theorem zM (hr:Run P md ops sp n0 es Hs vs Fs Ns 0 ops.toList)(hn:(Hs 0).next=n0+ops.size):∀ i,i<=ops.size->es i=eS ops (es 0) vs (λ_=>true) i/\Hs i=HS md ops n0 (Hs 0) Hs Fs Ns (λ_=>true) i
 | 0,_=>⟨by funext t;rfl,by
   generalize hH:Hs 0=X at hn;obtain ⟨nx,al,g⟩:=X;simp only [HS,AHeap.mk.injEq];refine ⟨hn,funext λid=>propext ⟨.inl,λh=>h.elim (λh=>h) λ⟨k,hk,_⟩=>by omega⟩,funext λid=>rfl⟩⟩
 | i+1,hi=>by
  obtain ⟨ih1,ih2⟩:=zM hr hn i bL;have hlt:i<ops.size:=bL;have ho:ops[i]?=some ops[i]:=bK hlt;obtain ⟨h1,hT⟩:=hr.step i ops[i] (by rw [oA,ho]);simp only [eQ] at h1 hT;refine ⟨?_,?_⟩
  .rw [h1,ih1];funext t;simp only [eS,iL,fP];have hd:o6 ops i=ops[i].dst:=by simp [o6,ho]
   cases hdd:ops[i].dst with
   | none=>simp [nB,hd,hdd,eS]
   | some d =>
    by_cases ht:t=d
    .subst ht;simp [nB,hd,hdd]
    .have ht':¬ d=t:=λh=>ht h.symm;simp [nB,hd,hdd,ht,ht',eS]
  .have hself:=hT.cm;have hw:sI md ops i=oP md ops[i]:=by simp [sI,ho]
   have hget:∀ id,(Hs (i+1)).get id=if (sI md ops i&&(Fs i).contains id)=true then (Hs (i+1)).get id else (Hs i).get id:=by
    intro id;split
    .rfl
    .rename_i hc;by_cases hwr:sI md ops i=true
     .have hnc:id∉Fs i:=λh=>hc (by simp [hwr,h]);rw [hself];simp [yK,hnc]
     .rw [hT.da (by rw [<- hw];simpa using hwr)]
   have hnext:(Hs (i+1)).next=n0+ops.size:=by rw [hself,ih2];rfl
   have halq:∀ id,(Hs (i+1)).J id↔(Hs i).J id\/(id∈Ns i/\(Hs (i+1)).J id):=λid=>by
    constructor
    .intro h;rw [hself] at h;exact h
    .intro h;rw [hself];exact h
   generalize hH:Hs (i+1)=X at hget hnext halq;obtain ⟨nx,al,g⟩:=X;simp only [HS,AHeap.mk.injEq];refine ⟨hnext,funext λid=>propext ?_,funext λid=>?_⟩
   .rw [show al id↔_ from halq id,ih2];simp only [HS];constructor
    .rintro ((h|⟨k,hk,_,hm,h⟩)|⟨hm,h⟩)
     .exact .inl h
     .exact .inr ⟨k,bL,trivial,hm,h⟩
     .exact .inr ⟨i,bL,trivial,hm,by rw [hH];exact h⟩
    .rintro (h|⟨k,hk,_,hm,h⟩)
     .exact .inl (.inl h)
     .by_cases hki:k=i
      .subst hki;rw [hH] at h;exact .inr ⟨hm,h⟩
      .exact .inl (.inr ⟨k,bL,trivial,hm,h⟩)
   .have:=hget id;simp only at this;rw [this,ih2];simp only [HS,iL,fP];split
    .simp only [hH]
    .rfl
theorem tZ (h:zG md ops sp=true){i j:Nat}(a:i<j)(d:j<ops.size) :
  ((QR ops.toList []).getD j 0).testBit i=true\/(N5 ops (ops[i]' bL) ops[j]=false/\(JN md (ops[i]' bL) ops[j]=false\/(i,j)∈sp)):=by
 unfold zG at h;simp only [cF,bN] at h;have c:=h j d;rw [bK d] at c;simp only [aR,cF,bN] at c;have b:=c.2 i a;rw [bK bL] at b;simp only [cX,aR,b7,AL] at b;exact b
theorem Ur (h:zG md ops sp=true){j:Nat}{o:Oper}(c:ops[j]?=some o):∀ e∈o.after.toList,Region.binds .any e=true->e.on<j:=by
 have d:j<ops.size:=(nP.1 c).1;unfold zG at h;simp only [cF,bN] at h;have b:=h j d;rw [c] at b;simp only [aR,cF,cX,b7,decide_eq_true_eq] at b;intro e f g;rcases b.1.1 e f with a|a
 .rw [g] at a;cases a
 .exact a
variable {S:Nat→Bool} {i:Nat}
def oX (S:Nat->Bool)(i:Nat):Nat->Bool:=λk=>k==i||S k
theorem MQ {o:Op}(h:zC o=true):sV o=true:=by
 cases o<;>first|rfl|(simp [zC] at h;done)|exact h
theorem sA {md:Nat->Bool}{o:Oper}(h:oP md o=true):sV o.op=true:=by
 unfold oP at h;rw [cX] at h;rcases h with h|h
 .exact MQ h
 .unfold Hp at h;split at h
  .rename_i a;rw [a];rfl
  .cases h
theorem Bz {x y:Oper}(h:N5 ops x y=false):(∀ t,x.dst=some t->t∉y.looksAt ops/\y.dst≠some t)/\(∀ t,y.dst=some t->t∉x.looksAt ops):=by
 have:=Oper.apart_spec (by simpa [N5] using h);grind
theorem Gr (e:zG md ops sp=true)(d:On ops S)(c:On ops (oX S i))(f:i<ops.size)(b:S i=false) :
  (∀ k,k<i->(((QR ops.toList []).getD i 0).testBit k=true)->S k=true)/\(∀ k,i<k->k<ops.size->((QR ops.toList []).getD k 0).testBit i=true->S k=false):=by
 refine ⟨λk hk hb=>?_,λk hk hk2 hb=>?_⟩
 .have:=ME c i k (by simp [oX]) hb;simp only [oX,cX,beq_iff_eq] at this;grind
 .cases a:S k with
  | false=>rfl
  | true=>have:=ME d k i a hb;rw [b] at this;cases this
theorem LC (r:Run P md ops sp n0 es Hs vs Fs Ns 0 ops.toList)(A:(Hs 0).next=n0+ops.size)(o:zG md ops sp=true)(C:On ops S)(w:On ops (oX S i))(q:i<ops.size)(n:S i=false) :
  (∀ t∈(ops[i]).looksAt ops,eS ops (es 0) vs S ops.size t=es i t)/\gQ (Fs i) (HS md ops n0 (Hs 0) Hs Fs Ns S ops.size) (Hs i):=by
 obtain ⟨y,x⟩:=Gr o C w q n;obtain ⟨E,D⟩:=zM r A i bL;have v:∀ k,k<ops.size->o6 ops k=(ops[k]?).bind (·.dst):=λk _=>rfl;obtain ⟨_,z⟩:=r.step i ops[i] (by rw [oA,bK q]);simp only [eQ] at z;refine ⟨λt ht=>?_,λid e=>?_⟩
 .rw [E];simp only [eS,fP];have u:iL (λk=>S k&&(o6 ops k==some t)) ops.size=iL (λk=>o6 ops k==some t) i:=by
   rw [CX (p:=λk=>S k&&(o6 ops k==some t)) i ops.size bL (λk g hk2=>?_)]
   .refine lL i λk g=>?_;cases c:(o6 ops k==some t) with
    | false=>simp
    | true =>
     have j:k<ops.size:=bL;have m:ops[k].dst=some t:=by simpa [o6,bK j] using c
     rcases tZ o g q with h|⟨h,_⟩
     .simp [y k g h]
     .exact absurd ht ((Bz h).1 t m).1
   .by_cases l:k=i
    .subst l;simp [n]
    .cases c:(o6 ops k==some t) with
     | false=>simp
     | true =>
      have m:ops[k].dst=some t:=by simpa [o6,bK hk2] using c
      rcases tZ o (bL:i<k) hk2 with h|⟨h,_⟩
      .simp [x k bL hk2 h]
      .exact absurd ht ((Bz h).2 t m)
  rw [u]
 .rw [D];have b:sV ops[i].op=true:=by
   cases B:sV ops[i].op with
   | true=>rfl
   | false=>rw [z.eg B] at e;cases e
  simp only [HS,fP];have u:iL (λk=>S k&&(sI md ops k&&(Fs k).contains id)) ops.size=iL (λk=>sI md ops k&&(Fs k).contains id) i:=by
   rw [CX (p:=λk=>S k&&(sI md ops k&&(Fs k).contains id)) i ops.size bL (λk g hk2=>?_)]
   .refine lL i λk g=>?_;cases c:(sI md ops k&&(Fs k).contains id) with
    | false=>simp
    | true =>
     have j:k<ops.size:=bL;simp only [aR,AL] at c;have a:oP md ops[k]=true:=by simpa [sI,bK j] using c.1
     rcases tZ o g q with h|⟨_,h|h⟩
     .simp [y k g h]
     .simp [JN,b,sA a,a] at h
     .have d:=r.apart k i g (cG q);simp only [eQ] at d;exact absurd e (d h id c.2)
   .by_cases l:k=i
    .subst l;simp [n]
    .cases c:(sI md ops k&&(Fs k).contains id) with
     | false=>simp
     | true =>
      simp only [aR,AL] at c;have a:oP md ops[k]=true:=by simpa [sI,bK hk2] using c.1
      rcases tZ o (bL:i<k) hk2 with h|⟨_,h|h⟩
      .simp [x k bL hk2 h]
      .simp [JN,b,sA a,a] at h
      .have d:=r.apart i k bL (cG hk2);simp only [eQ] at d;exact absurd c.2 (d h id e)
  rw [u]
theorem VP (y:Run P md ops sp n0 es Hs vs Fs Ns 0 ops.toList)(H:(Hs 0).next=n0+ops.size)(x:zG md ops sp=true)(F:On ops S)(v:On ops (oX S i))(m:i<ops.size)(u:S i=false) :
  nB (eS ops (es 0) vs S ops.size) ops[i].dst (vs i)=eS ops (es 0) vs (oX S i) ops.size /\
  yK (HS md ops n0 (Hs 0) Hs Fs Ns S ops.size) (Hs (i+1)) (Fs i) (Ns i)=HS md ops n0 (Hs 0) Hs Fs Ns (oX S i) ops.size:=by
 obtain ⟨I,C⟩:=Gr x F v m u;obtain ⟨_,E⟩:=y.step i ops[i] (by rw [oA,bK m]);simp only [eQ] at E;have B:=(LC y H x F v m u).2;have j:ops[i]?=some ops[i]:=bK m;refine ⟨?_,?_⟩
 .funext t;by_cases q:ops[i].dst=some t
  .have g:iL (λk=>oX S i k&&(o6 ops k==some t)) ops.size=some i:=by
    refine Fn ops.size m (by simp [oX,o6,j,q]) λk e c=>?_;cases r:(o6 ops k==some t) with
    | false=>simp
    | true =>
     have z:ops[k].dst=some t:=by simpa [o6,bK c] using r
     rcases tZ x e c with h|⟨h,_⟩
     .have a:(k==i)=false:=by simp;omega
      simp [oX,a,C k e c h]
     .exact absurd z ((Bz h).1 t q).2
   simp only [eS,g,nB,q,if_true]
  .have g:iL (λk=>oX S i k&&(o6 ops k==some t)) ops.size=iL (λk=>S k&&(o6 ops k==some t)) ops.size:=by
    refine lL _ λk e=>?_;by_cases a:k=i
    .subst a;have:(o6 ops k==some t)=false:=by simp [o6,j];exact q
     simp [this]
    .have:(k==i)=false:=by simpa using a
     simp [oX,this]
   simp only [eS,g];cases A:ops[i].dst with
   | none=>rfl
   | some d =>
    have:¬ t=d:=λh=>q (by rw [A,h]);simp only [nB,this,if_false];rfl
 .simp only [yK,HS,AHeap.mk.injEq,true_and];refine ⟨funext λid=>propext ?_,funext λid=>?_⟩
  .constructor
   .rintro ((h|⟨k,e,n,o,h⟩)|⟨o,h⟩)
    .exact .inl h
    .exact .inr ⟨k,e,by simp [oX,n],o,h⟩
    .exact .inr ⟨i,m,by simp [oX],o,h⟩
   .rintro (h|⟨k,e,n,o,h⟩)
    .exact .inl (.inl h)
    .by_cases a:k=i
     .subst a;exact .inr ⟨o,h⟩
     .have:(k==i)=false:=by simpa using a
      exact .inl (.inr ⟨k,e,by simpa [oX,this] using n,o,h⟩)
  .by_cases w:oP md ops[i]=true
   .by_cases b:id∈Fs i
    .rw [if_pos b];have g:iL (λk=>oX S i k&&(sI md ops k&&(Fs k).contains id)) ops.size=some i:=by
      refine Fn ops.size m (by simp [oX,sI,j,w,b]) λk e c=>?_;cases r:(sI md ops k&&(Fs k).contains id) with
      | false=>simp
      | true =>
       simp only [aR,AL] at r;have p:oP md ops[k]=true:=by simpa [sI,bK c] using r.1
       rcases tZ x e c with h|⟨_,h|h⟩
       .have a:(k==i)=false:=by simp;omega
        simp [oX,a,C k e c h]
       .simp [JN,sA w,sA p,p] at h
       .have s:=y.apart i k e (cG c);simp only [eQ] at s;exact absurd r.2 (s h id b)
     rw [g]
    .rw [if_neg b];have g:iL (λk=>oX S i k&&(sI md ops k&&(Fs k).contains id)) ops.size=iL (λk=>S k&&(sI md ops k&&(Fs k).contains id)) ops.size:=by
      refine lL _ λk e=>?_;by_cases a:k=i
      .subst a;simp [b]
      .have:(k==i)=false:=by simpa using a
       simp [oX,this]
     rw [g]
   .have g:iL (λk=>oX S i k&&(sI md ops k&&(Fs k).contains id)) ops.size=iL (λk=>S k&&(sI md ops k&&(Fs k).contains id)) ops.size:=by
     refine lL _ λk e=>?_;by_cases a:k=i
     .subst a;have:sI md ops k=false:=by simp [sI,j];simpa using w
      simp [this]
     .have:(k==i)=false:=by simpa using a
      simp [oX,this]
    rw [g];by_cases b:id∈Fs i
    .rw [if_pos b,E.da (cG w),<- B id b];rfl
    .rw [if_neg b]
theorem Dv (hr:Run P md ops sp n0 es Hs vs Fs Ns 0 ops.toList){id:Nat}:∀ (j k:Nat),k<=j->j<=ops.size->(Hs k).J id->(Hs j).J id
 | 0,k,hk,_,h=>by rw [(bL:(0:Nat)=k)];exact h
 | j+1,k,hk,hj,h=>by
  by_cases he:k=j+1
  .rw [<- he];exact h
  .have ih:=Dv hr j k bL bL h;obtain ⟨_,hT⟩:=hr.step j ops[j] (by rw [oA,bK bL]);simp only [eQ] at hT;rw [hT.cm];exact .inl ih
theorem UT (a:Run P md ops sp n0 es Hs vs Fs Ns 0 ops.toList)(s:i<ops.size)(j:S i=false):∀ id∈Ns i,¬ (HS md ops n0 (Hs 0) Hs Fs Ns S ops.size).J id:=by
 intro id g;obtain ⟨_,m⟩:=a.step i ops[i] (by rw [oA,bK s]);simp only [eQ] at m;obtain ⟨n,l⟩:=m.new id g;rintro (h|⟨k,r,c,p,h⟩)
 .exact n (Dv a i 0 bL bL h)
 .obtain ⟨_,b⟩:=a.step k ops[k] (by rw [oA,bK r]);simp only [eQ] at b;obtain ⟨o,d⟩:=b.new id p;have f:k≠i:=λe=>by subst e;rw [j] at c;cases c
  rcases Nat.lt_or_gt_of_ne f with q|t
  .exact n (Dv a i (k+1) bL bL h)
  .rcases l with l|⟨l,u⟩
   .rcases d with d|⟨d,_⟩<;>omega
   .exact o (Dv a k (i+1) bL bL u)
end
end Go.Abs
end
section
namespace Go.Abs
def Came (n:Nat)(M0:Nat->Prop)(H0:AHeap)(σ0:Nat->Option Ow)(w0:World)(K:(Nat->D)->AHeap->Prop)(a:Act)(w:World):Prop :=
 ∃ e H σ,K e H/\St n M0 H σ w e a/\Stp σ0 w0 σ w/\Keeps (dK M0 H0 σ0) σ0 H0.J w0 (dK M0 H σ) σ H.J w
theorem Came.mono {n:Nat}{M0:Nat->Prop}{H0:AHeap}{σ0:Nat->Option Ow}{w0:World}{K K':(Nat->D)->AHeap->Prop}{a:Act}{w:World}(h:Came n M0 H0 σ0 w0 K a w)
 (hk:∀ e H,K e H->K' e H):Came n M0 H0 σ0 w0 K' a w:=let ⟨e,H,σ,a,b⟩:=h;⟨e,H,σ,hk _ _ a,b⟩
theorem Came.trans {n:Nat}{M0:Nat->Prop}{H0 H1:AHeap}{σ0 σ1:Nat->Option Ow}{w0 w1:World}{K:(Nat->D)->AHeap->Prop}{a:Act}{w:World}
  (hs:Stp σ0 w0 σ1 w1) (hk:Keeps (dK M0 H0 σ0) σ0 H0.J w0 (dK M0 H1 σ1) σ1 H1.J w1) (h:Came n M0 H1 σ1 w1 K a w):Came n M0 H0 σ0 w0 K a w :=
 let ⟨e,H,σ,a,b,c,d⟩:=h;⟨e,H,σ,a,b,hs.trans c,hk.trans d⟩
section
variable {P:Program} {md:Nat→Bool} {n:Nat} {M0:Nat→Prop}
theorem Rel.b0 {H:AHeap}{σ:Nat->Option Ow}{w:World}(h:Rel M0 H σ w){m:Nat}(hm:H.next<=m):Rel M0 { H with next:=m } σ w :=
 ⟨h.bf,λid hid=>cH (h.bb id hid) hm,λid k hk=>h.ah id k hk,h.inj,h.lt,h.m0⟩
theorem StepC.mono {ops:Array Oper}{Q:Exit->Act->World->Prop}{o:Oper}{K K':Act->World->Prop}{a:Act}{w:World}(h:∀ a w,K a w->K' a w)(b:StepC P ops Q o K a w):StepC P ops Q o K' a w:=by
 unfold StepC at *;split
 .rename_i c;rw [if_pos c] at b;exact b.imp (Oper.wp_mono h) id
 grind
def oM (P:Program)(md:Nat->Bool)(ops:Array Oper):List Oper->(Nat->D)->AHeap->((Nat->D)->AHeap->Prop)->Prop
 | [],e,H,K=>K e H
 | o :: rest,e,H,K=>rD P md none H.next ops e o H λv H' _=>oM P md ops rest (nB e o.dst v) H' K
theorem J3 {ops:Array Oper}{Q:Exit->Act->World->Prop}:∀ (l:List Oper) (e:Nat->D) (H:AHeap) (K:(Nat->D)->AHeap->Prop),oM P md ops l e H K->(∀ o∈l,sZ n o.dst=true) ->
  ∀ (σ:Nat->Option Ow) (w:World) (a:Act),St n M0 H σ w e a->(∀ a' w',Came n M0 H σ w K a' w'->Q .normal a' w')->wpList P ops Q l a w
 | [],e,H,K,h,hd,σ,w,a,hS,hQ=>wpList_nil (hQ a w ⟨e,H,σ,h,hS,.refl _ _,.refl _ _ _ _⟩)
 | o :: l,e,H,K,h,hd,σ,w,a,hS,hQ=>by
  unfold oM at h;have hs:=BF (Q:=Q) h hS (λhn=>j4 _ (hS.a7.bb _ hn)) (hd o bS);have:=StepC.mono (K':=wpList P ops Q l) (λa' w' ⟨v,H',F,σ',hk,hS',hst,hkp⟩ =>
   J3 l _ _ _ hk (λo' ho'=>hd o' (fg ho')) σ' w' a' hS' λa'' w'' hc=>hQ a'' w'' (hc.trans hst hkp)) hs
  unfold StepC at this;unfold wpList;exact this
theorem YU {ops:Array Oper}{a:Nat->D}{vs:Nat->D}{S T:Nat->Bool}{m:Nat}(h:∀ k,k<m->S k=T k):eS ops a vs S m=eS ops a vs T m:=by
 funext t;unfold eS;rw [lL (p:=λk=>S k&&(o6 ops k==some t)) (q:=λk=>T k&&(o6 ops k==some t)) m λk hk=>by rw [h k hk]]
theorem Ug {ops:Array Oper}{c:Nat}{f:AHeap}{e:Nat->AHeap}{a d:Nat->List Nat}{S T:Nat->Bool}{m:Nat}(h:∀ k,k<m->S k=T k):HS md ops c f e a d S m=HS md ops c f e a d T m:=by
 unfold HS;congr 1
 .funext b;grind
 .funext b;rw [lL (p:=λk=>S k&&(sI md ops k&&(a k).contains b)) (q:=λk=>T k&&(sI md ops k&&(a k).contains b)) m λk hk=>by rw [h k hk]]
def xK (S:Nat->Bool):Nat->Nat
 | 0=>0
 | m+1=>(if S m then 0 else 1)+xK S m
theorem QD {S:Nat->Bool}:∀ {m:Nat},xK S m=0->∀ k,k<m->S k=true
 | 0,_,k,hk=>by omega
 | m+1,h,k,hk=>by
  simp only [xK] at h;by_cases hk':k=m
  .subst hk';cases hS:S k<;>simp [hS] at h ⊢
  .exact QD (m:=m) bL k bL
theorem JI {S T:Nat->Bool}:∀ {m:Nat},(∀ k,k<m->S k=T k)->xK S m=xK T m
 | 0,_=>rfl
 | m+1,h=>by simp only [xK,h m bL,JI (m:=m) λk hk=>h k bL]
theorem T8 {S:Nat->Bool}{i:Nat}(a:S i=false):∀ {m:Nat},i<m->xK (oX S i) m+1=xK S m
 | 0,h=>by omega
 | m+1,h=>by
  simp only [xK];by_cases hi:i=m
  .subst hi;have h1:oX S i i=true:=by simp [oX]
   have b:xK (oX S i) i=xK S i:=JI λk hk=>by
    have:(k==i)=false:=by simp;omega
    simp [oX,this]
   grind
  .have h1:oX S i m=S m:=by
    have:(m==i)=false:=by simp;omega
    simp [oX,this]
   have:=T8 a (m:=m) bL;rw [h1];omega
theorem SD {ops:Array Oper}{sp:List (Nat × Nat)}{id:Nat}{e:Nat->D}{H:AHeap}{σ:Nat->Option Ow}{w:World}{a:Act}{K:(Nat->D)->AHeap->Prop}{Q:Exit->Act->World->Prop}
  (hm:P.follows .mixedOrders=true) (hs:zG md ops sp=true) (hd:∀ o∈ops.toList,sZ n o.dst=true)
  (h:kQ P md ops sp H.next 0 ops.toList [] e { H with next:=H.next+ops.size } K) (hS:St n M0 H σ w e a) (hQ:∀ a' w',Came n M0 H σ w K a' w'->Q .normal a' w') :
  (Code.region id ops true).wp P Q a w:=by
 refine wp_region_any hm ?_;obtain ⟨c1,a1,a2⟩:=hS.a7.drew;have c0:=c1.b0 (m:=H.next+ops.size) bL;have b9:St n M0 { H with next:=H.next+ops.size } σ w.drew e a:=⟨c0,λt=>(hS.bz t).G a2,hS.defers,hS.size⟩;obtain ⟨es,s,vs,R,Ns,he,O,hK,c,_⟩:=MN (nn:=H.next+ops.size) ops.toList 0 [] e _ K h (λi I=>hS.a7.bb i I) rfl bS;simp only [eQ,gB] at hK;have hn:(s 0).next=H.next+ops.size:=by rw [O]
 have b1:∀ (d:Nat) (b:Array Bool) (a':Act) (w':World),b.size=ops.size->xK (λk=>b.getD k false) ops.size<=d->On ops (λk=>b.getD k false) ->
   (∃ σ',St n M0 (HS md ops H.next (s 0) s R Ns (λk=>b.getD k false) ops.size) σ' w' (eS ops (es 0) vs (λk=>b.getD k false) ops.size) a'/\Stp σ w σ' w' /\
    Keeps (dK M0 H σ) σ H.J w (dK M0 (HS md ops H.next (s 0) s R Ns (λk=>b.getD k false) ops.size) σ') σ' (HS md ops H.next (s 0) s R Ns (λk=>b.getD k false) ops.size).J w') ->
   wpAny P .any ops Q d b a' w':=by
  intro d;induction d with
  | zero =>
   intro b a' w' hl hc hD ⟨σ',J,l,E⟩;have g:=QD (S:=λk=>b.getD k false) (m:=ops.size) bL;refine ⟨?_,?_⟩
   .unfold Region.ready;rw [List.filter_eq_nil_iff];intro i I;have b5:i<ops.size:=by simpa using I
    have hg:b.getD i true=true:=by
     have:=g i b5;simp only [mX] at this ⊢;rw [bK bL] at this ⊢;simpa using this
    simp [hg]
   .refine hQ a' w' ⟨es ops.size,s ops.size,σ',hK,?_,l,?_⟩
    .obtain ⟨r1,r2⟩:=zM c hn ops.size (aT _);rw [r1,r2,YU (T:=λk=>b.getD k false) λk r=>(g k r).symm,Ug (T:=λk=>b.getD k false) λk r=>(g k r).symm];exact J
    .obtain ⟨r1,r2⟩:=zM c hn ops.size (aT _);rw [r2,Ug (T:=λk=>b.getD k false) λk r=>(g k r).symm];exact E
  | succ d ih =>
   intro b a' w' hl hc hD ⟨σ',J,l,E⟩;have A:∀ i,i∈Region.ready .any ops b->i<ops.size/\b.getD i false=false/\∀ o,ops[i]?=some o->∀ z∈o.after.toList,Region.binds .any z=true->b.getD z.on false=true:=by
    intro i I;unfold Region.ready at I;simp only [dR,bN,aR,b7] at I;obtain ⟨h1,h2,h3⟩:=I;refine ⟨h1,?_,λo B z x hb=>?_⟩
    .simp only [mX] at h2 ⊢;rw [bK bL] at h2 ⊢;simpa using h2
    .rw [B] at h3;simp only [fS,aF,Array.all_eq_true_iff_forall_mem] at h3;have:=h3 z (cG x);rw [hb] at this;simpa using this
   refine ⟨λL=>?_,λi I=>?_⟩
   .-- nothing is ready: all is done
    have g:∀ k,k<ops.size->b.getD k false=true:=by
     intro k;induction k using Nat.strongRecOn with
     | _ k ihk =>
      intro r;cases X:b.getD k false with
      | true=>rfl
      | false =>
       exfalso;have N:k∈Region.ready .any ops b:=by
        unfold Region.ready;simp only [dR,bN,aR,b7];refine ⟨r,?_,?_⟩
        .simp only [mX] at X ⊢;rw [bK bL] at X ⊢;simpa using X
        .have B:ops[k]?=some ops[k]:=bK r;rw [B];simp only [fS,aF,Array.all_eq_true_iff_forall_mem];intro z x;cases hb:Region.binds .any z with
         | false=>simp
         | true =>
          have b2:=Ur hs B z (cG x) hb;simp [ihk z.on b2 bL]
       rw [L] at N;cases N
    have:=(ih b a' w' hl (by
     have:xK (λk=>b.getD k false) ops.size=xK (λ_=>true) ops.size:=JI g;have h0:∀ m,xK (λ_=>true) m=0:=λm=>by induction m with
      | zero=>rfl
      | succ m ih=>simp [xK,ih]
     rw [this,h0];omega) hD ⟨σ',J,l,E⟩)
    cases d with
    | zero=>exact this.2
    | succ f=>exact this.1 L
   .obtain ⟨u,y,b4⟩:=A i I;have B:ops[i]?=some ops[i]:=bK u;have a0:On ops (oX (λk=>b.getD k false) i):=by
     intro j o hj hSj z x hb;simp only [oX,cX,beq_iff_eq] at hSj;simp only [oX,cX];rcases hSj with rfl|hSj
     .exact .inr (b4 o hj z x hb)
     .exact .inr (hD j o hj hSj z x hb)
    have q:(λk=>(b.setIfInBounds i true).getD k false)=oX (λk=>b.getD k false) i:=by
     funext k;simp only [oX,mX,Array.getElem?_setIfInBounds];by_cases Y:k=i
     .subst Y;simp [hl,u]
     .have:¬ i=k:=λh=>Y h.symm;have h2:(k==i)=false:=by simpa using Y
      simp [this,h2]
    obtain ⟨a4,b6⟩:=LC c hn hs hD a0 u y;obtain ⟨b8,a5⟩:=VP c hn hs hD a0 u y;obtain ⟨_,hT⟩:=c.step i ops[i] (by rw [oA,B]);simp only [eQ] at hT;have W:=UT c (S:=λk=>b.getD k false) u y;have a9:∀ id∈Ns i,id<H.next+ops.size:=λid G=>by rcases (hT.new id G).2 with h|⟨h,_⟩<;>omega
    have M:¬ (HS md ops H.next (s 0) s R Ns (λk=>b.getD k false) ops.size).J (H.next+i):=by
     simp only [HS];rintro (h|⟨k,r,a7,b3,_⟩)
     .rw [O] at h;have:=hS.a7.bb _ h;omega
     .obtain ⟨_,a6⟩:=c.step k ops[k] (by rw [oA,bK r]);simp only [eQ] at a6;have:k=i:=by rcases (a6.new _ b3).2 with h|⟨h,_⟩<;>omega
      subst this;rw [y] at a7;cases a7
    have U:=hT.any _ _ a4 b6 (by simp only [HS];omega) M (λid G=>⟨by simp only [HS];exact a9 id G,W id G⟩);have hc:=BF (Q:=Q) U J M (hd ops[i] bS) (λm hm=>by cases hm;simp only [HS];omega);have Z:StepC P ops Q ops[i] (wpAny P .any ops Q d (b.setIfInBounds i true)) a' w':=by
     refine StepC.mono (λc3 b0 ⟨v,H',F,σ'',⟨hv,c2⟩,a8,V,a3⟩=>?_) hc;subst hv;subst c2;refine ih _ c3 b0 (cG hl) ?_ (by rw [q];exact a0) ⟨σ'',?_,l.trans V,?_⟩
     .rw [q];have:=T8 (S:=λk=>b.getD k false) y u;omega
     .rw [q,<- b8,<- a5];exact a8
     .rw [q,<- a5];exact E.trans a3
    unfold wpOp;rw [B];exact Z
 refine b1 ops.size _ a _ bS ?_ ?_ ⟨σ,?_,a1,?_⟩
 .have:∀ S:Nat->Bool,∀ m,xK S m<=m:=λS m=>by
   induction m with
   | zero=>simp [xK]
   | succ m ih=>simp only [xK];split<;>omega
  exact this _ _
 .intro j o B hSj;exfalso;have hj:j<ops.size:=(nP.1 B).1;simp [hj] at hSj
 .have hS0:(λk=>(Array.replicate ops.size false).getD k false)=λ_=>false:=by
   funext k;by_cases r:k<ops.size<;>simp [r]
  have C:∀ (p:Nat->Bool) m,iL (λk=>false&&p k) m=none:=λp m=>by
   induction m with
   | zero=>rfl
   | succ m ih=>simp only [iL,GS,eW,if_false];exact ih
  have e1:eS ops (es 0) vs (λk=>(Array.replicate ops.size false).getD k false) ops.size=e:=by
   rw [hS0];funext t;simp only [eS,C (λk=>o6 ops k==some t)];rw [he]
  have e2:HS md ops H.next (s 0) s R Ns (λk=>(Array.replicate ops.size false).getD k false) ops.size={ H with next:=H.next+ops.size }:=by
   rw [hS0];simp only [HS,AHeap.mk.injEq,true_and];refine ⟨funext λid=>propext ⟨λh=>h.elim (λh=>by rw [O] at h;exact h) λ⟨_,_,h,_⟩=>(by cases h),λh=>.inl (by rw [O];exact h)⟩,funext λid=>?_⟩;rw [C (λk=>sI md ops k&&(R k).contains id),O]
  rw [e1,e2];exact b9
 .have hS0:(λk=>(Array.replicate ops.size false).getD k false)=λ_=>false:=by
   funext k;by_cases r:k<ops.size<;>simp [r]
  have C:∀ (p:Nat->Bool) m,iL (λk=>false&&p k) m=none:=λp m=>by
   induction m with
   | zero=>rfl
   | succ m ih=>simp only [iL,GS,eW,if_false];exact ih
  have e2:HS md ops H.next (s 0) s R Ns (λk=>(Array.replicate ops.size false).getD k false) ops.size={ H with next:=H.next+ops.size }:=by
   rw [hS0];simp only [HS,AHeap.mk.injEq,true_and];refine ⟨funext λid=>propext ⟨λh=>h.elim (λh=>by rw [O] at h;exact h) λ⟨_,_,h,_⟩=>(by cases h),λh=>.inl (by rw [O];exact h)⟩,funext λid=>?_⟩;rw [C (λk=>sI md ops k&&(R k).contains id),O]
  rw [e2];exact a2
end
end Go.Abs
end
section
namespace Go.Abs
abbrev dO:=Nat->D
structure Cfg where
 own:Nat->Bool
 sp:Nat->List (Nat × Nat)
def qE (H:AHeap)(id i off:Nat)(ty sz:Nat):AHeap :=
 match H.get id with
 | some k=>(H.put id { k with es:=k.es.set i ((k.es[i]?.getD []).set off (.own H.next 0)) }).push H.next ⟨ty,sz,[],false⟩
 | none=>H
def AHeap.drop (H:AHeap)(id:Nat):AHeap:=⟨H.next,H.J,λi=>if i=id then none else H.get i⟩
def C0 (H:AHeap)(id i off q hi:Nat):AHeap :=
 match H.get id,H.get q with
 | some k,some kq=>(((H.drop q).push H.next ⟨kq.ty,kq.sz,kq.es.take hi,false⟩).put id { k with es:=k.es.set i ((k.es[i]?.getD []).set off (.own H.next hi)) })
 | _,_=>H
inductive Ghosts:AHeap->AHeap->Prop
 | refl (H:AHeap):Ghosts H H
 | trunc {H H1:AHeap} (h:Ghosts H H1) (id i off q hi:Nat) (k kq:Blk) (c:Xa2) (hk:H1.get id=some k) (hf:k.fz=false) (hc:k.es[i]?=some c) (hq:H1.get q=some kq) (hn:c[off]?=some (.win q kq.es.length 0 hi)) (hqf:kq.fz=false) (hne:id≠q):Ghosts H (C0 H1 id i off q hi)
 | step {H H1:AHeap} (h:Ghosts H H1) (id i off ty sz:Nat) (k:Blk) (c:Xa2) (hk:H1.get id=some k) (hf:k.fz=false) (hc:k.es[i]?=some c) (hn:c[off]?=some .nil):Ghosts H (qE H1 id i off ty sz)
inductive GhE:dO->AHeap->dO->AHeap->Prop
 | gh {e:dO} {H H':AHeap} (h:Ghosts H H'):GhE e H e H'
 | frz {e e1:dO} {H H1:AHeap} (h:GhE e H e1 H1) (t id n:Nat) (k:Blk) (he:e1 t=.own id n) (hk:H1.get id=some k) (hn:k.es.length=n):GhE e H (nB e1 (some t) (.list k.es)) (H1.frz id)
 | trv {e e1:dO} {H H1:AHeap} (h:GhE e H e1 H1) (t q hi:Nat) (k:Blk) (he:e1 t=.win q k.es.length 0 hi) (hk:H1.get q=some k) (hf:k.fz=false):GhE e H (nB e1 (some t) (.own H1.next hi)) ((H1.drop q).push H1.next ⟨k.ty,k.sz,k.es.take hi,false⟩)
def sK (next:dO->AHeap->Prop)(Q:Exit->dO->AHeap->Prop):Exit->dO->AHeap->Prop
 | .normal,e,H=>next e H
 | ex,e,H=>Q ex e H
def Db (id:Nat)(Q:Exit->dO->AHeap->Prop):Exit->dO->AHeap->Prop
 | .exit id',e,H=>if id'=id then Q .normal e H else Q (.exit id') e H
 | ex,e,H=>Q ex e H
def pM (P:Program)(c:Cfg):Code->(Exit->dO->AHeap->Prop)->dO->AHeap->Prop
 | .skip,Q,e,H=>Q .normal e H
 | .region id ops dr,Q,e,H =>
  if dr then kQ P c.own ops (c.sp id) H.next 0 ops.toList [] e { H with next:=H.next+ops.size } (Q .normal)
  else oM P c.own ops ops.toList e H (Q .normal)
 | .seq a b,Q,e,H=>pM P c a (sK (pM P c b Q) Q) e H
 | .cond x a b,Q,e,H=>match fI e x with
  | .bool t=>(t=true->pM P c a Q e H)/\(t=false->pM P c b Q e H)
  | _=>False
 | .block id b,Q,e,H=>pM P c b (Db id Q) e H
 | .loop b,Q,e,H=>∃ I:Nat->dO->AHeap->Prop,(∃ e' H',GhE e H e' H'/\∃ k,I k e' H')/\∀ k e' H',I k e' H'->pM P c b (sK (λe'' H''=>∃ e3 H3,GhE e'' H'' e3 H3/\∃ k',k'<k/\I k' e3 H3) Q) e' H'
 | .exit id,Q,e,H=>Q (.exit id) e H
 | .ret,Q,e,H=>Q .ret e H
 | _,_,_,_=>False
def q9 (c:Cfg)(n:Nat):Code->Bool
 | .region id ops dr=>(ops.toList.all λo=>sZ n o.dst)&&(!dr||zG c.own ops (c.sp id))
 | .seq a b=>q9 c n a&&q9 c n b
 | .cond _ a b=>q9 c n a&&q9 c n b
 | .block _ b=>q9 c n b
 | .loop b=>q9 c n b
 | _=>true
section
variable {P:Program} {c:Cfg} {n:Nat} {M0:Nat→Prop}
theorem jM {x:Code}{Q Q':Exit->Act->World->Prop}{a:Act}{w:World}(h:x.wp P Q a w)(hq:∀ e a w,Q e a w->Q' e a w):x.wp P Q' a w:=wp_mono h hq
theorem gW {p:Nat->Prop}(h:∃ k,p k):∃ k,p k/\∀ j,j<k->¬ p j:=by
 obtain ⟨k,hk⟩:=h;induction k using Nat.strongRecOn with
 | _ k ih =>
  grind
def Ui (n:Nat)(M0:Nat->Prop)(H0:AHeap)(σ0:Nat->Option Ow)(w0:World)(Q:Exit->dO->AHeap->Prop)(ex:Exit)(a:Act)(w:World):Prop:=Came n M0 H0 σ0 w0 (Q ex) a w
theorem z7 {sz:Nat}(d:D)(off:Nat)(c:Xa2):∀ (es:Xa1) (i:Nat),(∀ c∈es,c.length=sz)->es[i]?=some c->off<sz->(es.set i (c.set off d)).flatten=es.flatten.set (i * sz+off) d
 | [],i,_,h,_=>by simp at h
 | a :: es,0,hl,h,ho=>by
  simp at h;subst h;have:=hl a bS;simp only [nW,fB,Nat.zero_mul,eQ];rw [List.set_append_left _ _ bL]
 | a :: es,i+1,hl,h,ho=>by
  have ha:=hl a bS;simp at h;have ih:=z7 d off c es i (λc hc=>hl c (fg hc)) h ho;simp only [xT,fB,ih];rw [lI _ _ (by rw [Nat.add_mul];omega)];congr 2;rw [ha,Nat.add_mul];omega
theorem Ql {H:AHeap}{σ:Nat->Option Ow}{w:World}(B:Rel M0 H σ w){f i a ty sz:Nat}{k:Blk}{m:Xa2}(z:H.get f=some k)(X:k.fz=false)(r:k.es[i]?=some m)(hn:m[a]?=some .nil) :
  ∃ σ',Rel M0 (qE H f i a ty sz) σ' w/\Stp σ w σ' w/\Keeps (dK M0 H σ) σ H.J w (dK M0 (qE H f i a ty sz) σ') σ' (qE H f i a ty sz).J w:=by
 have A:¬ H.J H.next:=λh=>j4 _ (B.bb _ h);have I:H.J f:=bE λhn=>by rw [(B.bf f hn).2] at z;cases z
 have y:f≠H.next:=λh=>A (h ▸ I);obtain ⟨S,R,M⟩:=Rel.push B H.next A (w':=w) rfl rfl rfl (aT _) (λ_ _=>rfl) ⟨ty,sz,[],false⟩ ⟨0,.slice none 0 0,sz,ty⟩ (λb hb=>by simp [Ow.block,Value.ownBlock] at hb) rfl rfl rfl (λc r=>by simp at r) []
  ⟨by simp,.inl ⟨rfl,rfl⟩⟩ bS ⟨rfl,λj u d hu=>by simp at hu⟩
 obtain ⟨o,U,l⟩:=B.ah f k z;obtain ⟨N,t,C,v⟩:=l.row;have G:(H.push H.next ⟨ty,sz,[],false⟩).get f=some k:=by simp [AHeap.push,y,z]
 have E:(λi=>if i=H.next then some (⟨0,.slice none 0 0,sz,ty⟩:Ow) else σ i) f=some o:=by simp [y,U]
 have n:=l.K m (aK r);have g:a<o.K:=by rw [<- n];exact (aL.1 hn).1
 have p:∀ c∈k.es.set i (m.set a (.own H.next 0)),c.length=o.K:=λc K=>by
  rcases lE K with h|h
  .exact l.K c h
  grind
 have J:=z7 (D.own H.next 0) a m k.es i l.K r g;obtain ⟨Q,P,O⟩:=Rel.put S G X E { k with es:=k.es.set i (m.set a (.own H.next 0)) } o ⟨rfl,rfl,rfl,aT _,λ_ _ _=>rfl⟩ (λb hb=>.inl hb) (.inl rfl) (by simp [l.af]) l.ty l.sz p N (cG t) C (by
   have e:=v.G M;simp only;rw [J];refine ⟨by simpa using e.len,λj u d hu q=>?_⟩;rw [cT] at q;split at q
   .rename_i V;split at q
    .cases q
     have x:k.es.flatten[j]?=some .nil:=by
      rw [<- V,l7 k.es i m l.K r a g];exact hn
     have T:=e.Y j u _ hu x;cases T
     exact .own _ _ _ (.inl rfl) rfl λo' ho'=>by simp at ho';subst ho';exact .inr ⟨rfl,rfl⟩
    .cases q
   .exact e.Y j u d hu q)
 have W:qE H f i a ty sz=(H.push H.next ⟨ty,sz,[],false⟩).put f { k with es:=k.es.set i (m.set a (.own H.next 0)) }:=by
  simp only [qE,z,r,aF];unfold AHeap.push AHeap.put;grind
 rw [W];exact ⟨_,Q,R.trans P,M.trans O⟩
theorem ER {sz:Nat}:∀ (es:Xa1) (n:Nat),(∀ c∈es,c.length=sz)->(es.take n).flatten=es.flatten.take (n * sz)
 | [],n,_=>by simp
 | a :: es,0,_=>by simp
 | a :: es,n+1,h=>by
  have ha:=h a bS;rw [kV,fB,fB,ER es n λc hc=>h c (fg hc),Nat.add_mul,Aw,Nat.add_comm,<- ha,List.take_length_add_append]
theorem Lk {H:AHeap}{σ:Nat->Option Ow}{w:World}(hR:Rel M0 H σ w){q hi n:Nat}{kq:Blk}{oq:Ow}(hq:H.get q=some kq)(hqf:kq.fz=false)(hoq:σ q=some oq)(hn:¬ H.J n){v:Value}(hh:hi<=kq.es.length)(hv:S8 oq v kq.es.length 0 hi) :
  let σ':Nat->Option Ow:=λi=>if i=n then some ⟨hi,v,oq.K,oq.ty⟩ else if i=q then none else σ i
  Rel M0 ((H.drop q).push n ⟨kq.ty,kq.sz,kq.es.take hi,false⟩) σ' w/\Stp σ w σ' w/\Keeps (dK M0 H σ) σ H.J w (dK M0 ((H.drop q).push n ⟨kq.ty,kq.sz,kq.es.take hi,false⟩) σ') σ' ((H.drop q).push n ⟨kq.ty,kq.sz,kq.es.take hi,false⟩).J w:=by
 intro σ';have hqal:H.J q:=bE λh=>by rw [(hR.bf q h).1] at hoq;cases hoq
 have hqn:q≠n:=λe=>hn (e ▸ hqal);have hblk:∀ b,v.ownBlock=some b->oq.block=some b:=λb hb=>by
  rcases hv with ⟨_,rfl,_⟩|⟨b',cap,h1,h2,rfl⟩
  .simp [Value.ownBlock] at hb
  .simp only [Value.ownBlock] at hb;simp only [Ow.block,h1,Value.ownBlock];rw [<- hb];split<;>rfl
 have hmut:∀ b,dK M0 ((H.drop q).push n ⟨kq.ty,kq.sz,kq.es.take hi,false⟩) σ' b->dK M0 H σ b:=by
  rintro b (hm|⟨i,k',o',hk',hf,ho',hb'⟩)
  .exact .inl hm
  .by_cases h1:i=n
   .simp only [σ',h1,if_true,bG] at ho';subst ho';exact .inr ⟨q,kq,oq,hq,hqf,hoq,hblk b hb'⟩
   .by_cases h2:i=q
    .simp only [σ',h2,if_false,if_true,hqn] at ho';cases ho'
    .simp only [σ',h1,h2,if_false] at ho';simp only [AHeap.push,AHeap.drop,h1,h2,if_false] at hk';exact .inr ⟨i,k',o',hk',hf,ho',hb'⟩
 have hkeep:Keeps (dK M0 H σ) σ H.J w (dK M0 ((H.drop q).push n ⟨kq.ty,kq.sz,kq.es.take hi,false⟩) σ') σ' ((H.drop q).push n ⟨kq.ty,kq.sz,kq.es.take hi,false⟩).J w:=by
  refine ⟨λad u hm hu=>⟨λh=>hm (hmut _ h),hu⟩,λi o' hi' ho'=>?_,λi hi'=>.inr hi'⟩;have h1:i≠n:=λe=>hn (e ▸ hi');by_cases h2:i=q
  .simp only [σ',h2,if_true,hqn,if_false] at ho';cases ho'
  .simp only [σ',h1,h2,if_false] at ho';exact ⟨o',ho',.inl rfl⟩
 have hold:∀ {i o'},i≠n->σ' i=some o'->i≠q/\σ i=some o':=λ {i o'} h1 ho'=>by
  by_cases h2:i=q
  .simp only [σ',h2,if_true,hqn,if_false] at ho';cases ho'
  .simp only [σ',h1,h2,if_false] at ho';exact ⟨h2,ho'⟩
 obtain ⟨o2,ho2,l⟩:=hR.ah q kq hq;rw [hoq] at ho2;cases ho2
 obtain ⟨xs,hrow,hx1,hrep⟩:=l.row;refine ⟨⟨λi hi'=>?_,λi hi'=>?_,λi k' hk'=>?_,λi j oi oj b hi' hj' hbi hbj=>?_,λi oi b hi' hbi=>?_,hR.m0⟩,⟨rfl,rfl,rfl,aT _,λ_ _ _=>rfl,λi o' b ho' hb'=>?_⟩,hkeep⟩
 .have hi2:¬ (i=n\/H.J i):=hi';have h1:i≠n:=λe=>hi2 (.inl e);have h2:i≠q:=λe=>hi2 (.inr (e ▸ hqal));simp only [σ',AHeap.push,AHeap.drop,h1,h2,if_false];exact hR.bf i λe=>hi2 (.inr e)
 .have hi2:i=n\/H.J i:=hi';have he:((H.drop q).push n ⟨kq.ty,kq.sz,kq.es.take hi,false⟩).next=if n<H.next then H.next else n+1:=rfl
  rw [he];rcases hi2 with rfl|hi2
  .by_cases h:i<H.next
   .rw [if_pos h];exact h
   .rw [if_neg h];omega
  .have:=hR.bb i hi2;by_cases h:n<H.next
   .rw [if_pos h];exact this
   .rw [if_neg h];omega
 .by_cases h1:i=n
  .simp only [AHeap.push,h1,if_true,bG] at hk';subst hk';refine ⟨⟨hi,v,oq.K,oq.ty⟩,by simp [σ',h1],by simp;omega,l.ty,l.sz,λc hc=>l.K c (bJ hc),xs.take (hi * oq.K),⟨?_,?_⟩,λu hu=>hx1 u (bJ hu),?_⟩
   .have:=hrow.1;have h2:hi * oq.K<=kq.es.length * oq.K:=c9 _ hh;simp only [bT];rw [xR hh,xR bL]
   .have hm:(kq.es.take hi).length=hi:=by simp;omega
    simp only [hm];rcases hv with ⟨h1,h2,h3⟩|⟨b',cap,h1,h2,h3⟩
    .exact .inl ⟨h2,h3⟩
    .rcases hrow.2 with ⟨hn0,_⟩|⟨g,cap',cur,e1,e2,e3,e4,e5,e6,e7⟩
     .rw [h1] at hn0;cases hn0
     .rw [h1] at e1;cases e1
      refine .inr ⟨b',cap,cur,?_,dN _,e3,bL,e5,e6,?_⟩
      .rw [h3];simp
      .rw [<- e7,List.take_take,xR (c9 _ hh)]
   .have hr:=hrep.G hkeep;refine ⟨?_,λj u d hu hd=>?_⟩
    .simp only;rw [ER kq.es hi l.K];simp [hr.len]
    .simp only at hd;rw [ER kq.es hi l.K,bX] at hd;rw [bX] at hu;split at hd
     .rename_i hj;rw [if_pos hj] at hu;exact hr.Y j u d hu hd
     .cases hd
  .by_cases h2:i=q
   .simp only [AHeap.push,AHeap.drop,h2,if_false,if_true,hqn] at hk';cases hk'
   .simp only [AHeap.push,AHeap.drop,h1,h2,if_false] at hk';obtain ⟨o',ho',l'⟩:=hR.ah i k' hk';obtain ⟨xs',a1,a2,a3⟩:=l'.row;exact ⟨o',by simp [σ',h1,h2,ho'],l'.af,l'.ty,l'.sz,l'.K,xs',a1,a2,a3.G hkeep⟩
 .by_cases h1:i=n<;>by_cases h2:j=n
  .rw [h1,h2]
  .simp only [σ',h1,if_true,bG] at hi';subst hi';obtain ⟨h3,h4⟩:=hold h2 hj';exact absurd (hR.inj j q oj oq b h4 hoq hbj (hblk b hbi)) h3
  .simp only [σ',h2,if_true,bG] at hj';subst hj';obtain ⟨h3,h4⟩:=hold h1 hi';exact absurd (hR.inj i q oi oq b h4 hoq hbi (hblk b hbj)) h3
  .exact hR.inj i j oi oj b (hold h1 hi').2 (hold h2 hj').2 hbi hbj
 .by_cases h1:i=n
  .simp only [σ',h1,if_true,bG] at hi';subst hi';exact hR.lt q oq b hoq (hblk b hbi)
  .exact hR.lt i oi b (hold h1 hi').2 hbi
 .by_cases h1:i=n
  .simp only [σ',h1,if_true,bG] at ho';subst ho';exact .inr ⟨q,oq,hoq,hblk b hb'⟩
  .exact .inr ⟨i,o',(hold h1 ho').2,hb'⟩
theorem NT {H:AHeap}{σ:Nat->Option Ow}{w:World}(J:Rel M0 H σ w){f i a q e:Nat}{k kq:Blk}{s:Xa2}(G:H.get f=some k)(hf:k.fz=false)(L:k.es[i]?=some s)(R:H.get q=some kq)
  (hn:s[a]?=some (.win q kq.es.length 0 e)) (Q:kq.fz=false) (F:f≠q) :
  ∃ σ',Rel M0 (C0 H f i a q e) σ' w/\Stp σ w σ' w/\Keeps (dK M0 H σ) σ H.J w (dK M0 (C0 H f i a q e) σ') σ' (C0 H f i a q e).J w:=by
 have I:¬ H.J H.next:=λh=>j4 _ (J.bb _ h);have X:H.J f:=bE λhn=>by rw [(J.bf f hn).2] at G;cases G
 have r:f≠H.next:=λh=>I (h ▸ X);obtain ⟨K,C,lq⟩:=J.ah q kq R;obtain ⟨o,ho,l⟩:=J.ah f k G;obtain ⟨M,B,A,m⟩:=l.row;have t:=l.K s (aK L);have p:a<o.K:=by rw [<- t];exact (aL.1 hn).1
 have n:k.es.flatten[i * o.K+a]?=some (.win q kq.es.length 0 e):=by rw [l7 k.es i s l.K L a p];exact hn
 have U:i * o.K+a<M.length:=by rw [m.len];exact (aL.1 n).1
 obtain ⟨v,N⟩:∃ v,M[i * o.K+a]?=some v:=⟨_,aA U⟩;have P:=m.Y _ v _ N n;have E:v.oneCell'=true:=A v (aK N);obtain ⟨hh,hw⟩:e<=kq.es.length/\S8 K v kq.es.length 0 e:=by
  cases P
  rename_i _ _ V h;refine ⟨V.2,?_⟩;rcases h K C with h'|⟨_,h'⟩
  .have:=lq.af;omega
  .exact h'
 obtain ⟨p1,p2,p3⟩:=Lk J R Q C I hh hw;have W:((H.drop q).push H.next ⟨kq.ty,kq.sz,kq.es.take e,false⟩).get f=some k:=by simp [AHeap.push,AHeap.drop,r,F,G]
 have S:(λi=>if i=H.next then some (⟨e,v,K.K,K.ty⟩:Ow) else if i=q then none else σ i) f=some o:=by simp [r,F,ho]
 have x:∀ c∈k.es.set i (s.set a (.own H.next e)),c.length=o.K:=λc Z=>by
  rcases lE Z with h|h
  .exact l.K c h
  grind
 have Y:=z7 (D.own H.next e) a s k.es i l.K L p;obtain ⟨q1,q2,q3⟩:=Rel.put p1 W hf S { k with es:=k.es.set i (s.set a (.own H.next e)) } o ⟨rfl,rfl,rfl,aT _,λ_ _ _=>rfl⟩ (λb hb=>.inl hb) (.inl rfl) (by simp [l.af]) l.ty l.sz x M (cG B) A (by
   have g:=m.G p3;simp only;rw [Y];refine ⟨by simpa using g.len,λj u d O y=>?_⟩;rw [cT] at y;split at y
   .rename_i hj;split at y
    .cases y
     rw [<- hj,N] at O;cases O
     exact .own _ _ _ (.inl rfl) E λo' ho'=>by simp at ho';subst ho';exact .inr ⟨rfl,rfl⟩
    .cases y
   .exact g.Y j u d O y)
 have hg:C0 H f i a q e=((H.drop q).push H.next ⟨kq.ty,kq.sz,kq.es.take e,false⟩).put f { k with es:=k.es.set i (s.set a (.own H.next e)) }:=by
  simp only [C0,G,R,L,aF]
 rw [hg];exact ⟨_,q1,p2.trans q2,p3.trans q3⟩
theorem D2 {H H':AHeap}(j:Ghosts H H'){σ:Nat->Option Ow}{w:World}(l:Rel M0 H σ w):∃ σ',Rel M0 H' σ' w/\Stp σ w σ' w/\Keeps (dK M0 H σ) σ H.J w (dK M0 H' σ') σ' H'.J w:=by
 induction j with
 | refl=>exact ⟨σ,l,.refl _ _,.refl _ _ _ _⟩
 | trunc h id i off q hi k kq c hk hf hc hq hn hqf hne ih =>
  obtain ⟨σ1,g,f,e⟩:=ih;obtain ⟨σ2,d,b,a⟩:=NT g hk hf hc hq hn hqf hne;exact ⟨σ2,d,f.trans b,e.trans a⟩
 | step h id i off ty sz k c hk hf hc hn ih =>
  obtain ⟨σ1,g,f,e⟩:=ih;obtain ⟨σ2,d,b,a⟩:=Ql (ty:=ty) (sz:=sz) g hk hf hc hn;exact ⟨σ2,d,f.trans b,e.trans a⟩
theorem St.keeps {H H':AHeap}{σ σ':Nat->Option Ow}{w:World}{e:dO}{a:Act}(hS:St n M0 H σ w e a)(hR:Rel M0 H' σ' w)(hk:Keeps (dK M0 H σ) σ H.J w (dK M0 H' σ') σ' H'.J w):St n M0 H' σ' w e a :=
 ⟨hR,λt=>(hS.bz t).G hk,hS.defers,hS.size⟩
theorem Mb {e J:dO}{H H':AHeap}(P:GhE e H J H'){σ:Nat->Option Ow}{w:World}{a:Act}(o:St n M0 H σ w e a) :
  ∃ σ',St n M0 H' σ' w J a/\Stp σ w σ' w/\Keeps (dK M0 H σ) σ H.J w (dK M0 H' σ') σ' H'.J w:=by
 induction P with
 | gh h =>
  obtain ⟨σ',r,p,I⟩:=D2 h o.a7;exact ⟨σ',o.keeps r I,p,I⟩
 | frz h t id n k he hk hn ih =>
  obtain ⟨σ1,d,B,A⟩:=ih o;obtain ⟨r,p,_,R⟩:=Mc d.a7 id;obtain ⟨V,T,S,K⟩:=(R id).2 k hk (.inr rfl);have b:=d.keeps r p;refine ⟨σ1,⟨b.a7,λu=>?_,b.defers,b.size⟩,B,A.trans p⟩;have s:=b.bz u;rename_i g _ _ _;by_cases c:u=t
  .subst c;have f:nB g (some u) (D.list k.es) u=.list k.es:=by simp [nB]
   rw [he] at s;rw [f,<- K];exact C2 r s T S (by rw [K];exact hn)
  .have f:nB g (some t) (D.list k.es) u=g u:=by simp [nB,c]
   rw [f];exact s
 | trv h t q hi k he hk hf ih =>
  obtain ⟨σ1,d,B,A⟩:=ih o;obtain ⟨F,i,M⟩:=d.a7.ah q k hk;have x:=d.bz t;rename_i g _ m;rw [he] at x;obtain ⟨j,O,N⟩:(a.tmps.getD t undef).oneCell'=true/\hi<=k.es.length/\S8 F (a.tmps.getD t undef) k.es.length 0 hi:=by
   generalize a.tmps.getD t undef=v at x ⊢;cases x
   rename_i d Q y h;refine ⟨by first|exact d|exact Q,y.2,?_⟩;rcases h F i with G|⟨_,G⟩
   .have:=M.af;omega
   .exact G
  have z:¬ m.J m.next:=λh=>j4 _ (d.a7.bb _ h);obtain ⟨E,L,C⟩:=Lk d.a7 hk hf i z O N;have b:=d.keeps E C;refine ⟨_,⟨E,λu=>?_,b.defers,b.size⟩,B.trans L,A.trans C⟩;by_cases c:u=t
  .subst c;have f:nB g (some u) (D.own m.next hi) u=.own m.next hi:=by simp [nB]
   rw [f];exact .own _ _ _ (.inl rfl) j λU l=>by rw [if_pos rfl] at l;cases l;exact .inr ⟨rfl,rfl⟩
  .have f:nB g (some t) (D.own m.next hi) u=g u:=by simp [nB,c]
   rw [f];exact b.bz u
theorem qH (hm:P.follows .mixedOrders=true):∀ (x:Code) (Q:Exit->dO->AHeap->Prop) (e:dO) (H:AHeap),pM P c x Q e H->q9 c n x=true ->
  ∀ (σ:Nat->Option Ow) (w:World) (a:Act),St n M0 H σ w e a->x.wp P (Ui n M0 H σ w Q) a w
 | .skip,Q,e,H,h,_,σ,w,a,hS=>wp_skip ⟨e,H,σ,h,hS,.refl _ _,.refl _ _ _ _⟩
 | .region id ops dr,Q,e,H,h,hok,σ,w,a,hS=>by
  simp only [q9,aR,cF,cX,b7] at hok;unfold pM at h;cases dr with
  | false =>
   simp only [eW,if_false] at h;exact wp_region_list (J3 ops.toList e H _ h hok.1 σ w a hS λa' w' hc=>hc)
  | true =>
   simp only [if_true] at h;exact SD hm (hok.2.resolve_left bS) hok.1 h hS λa' w' hc=>hc
 | .seq x y,Q,e,H,h,hok,σ,w,a,hS=>by
  simp only [q9,aR] at hok;unfold pM at h;refine wp_seq (jM (qH hm x _ e H h hok.1 σ w a hS) λex a' w' hc=>?_);cases ex<;>first|exact hc|skip
  obtain ⟨e',H',σ',hq,hS',hst,hk⟩:=hc;exact jM (qH hm y Q e' H' hq hok.2 σ' w' a' hS') λex a'' w'' hc'=>Came.trans hst hk hc'
 | .cond x y z,Q,e,H,h,hok,σ,w,a,hS=>by
  simp only [q9,aR] at hok;unfold pM at h;have hx:=hS.bd.ev x;cases hv:fI e x<;>simp only [hv] at h<;>try (exact h.elim)
  rename_i t;rw [hv] at hx;have hc:a.eval x=.bool t:=by generalize a.eval x=v at hx;cases hx;rfl
  exact wp_cond_split hc (λht=>qH hm y Q e H (h.1 ht) hok.1 σ w a hS) λht=>qH hm z Q e H (h.2 ht) hok.2 σ w a hS
 | .block id b,Q,e,H,h,hok,σ,w,a,hS=>by
  unfold pM at h;refine wp_block (jM (qH hm b _ e H h hok σ w a hS) λex a' w' hc=>?_);cases ex<;>first|exact hc|skip
  rename_i id';by_cases hid:id'=id
  .subst hid;show (if id'=id' then Ui n M0 H σ w Q .normal a' w' else _);rw [if_pos rfl];exact Came.mono hc λe' H' h=>by
    have h':(if id'=id' then Q .normal e' H' else Q (.exit id') e' H'):=h;rw [if_pos rfl] at h';exact h'
  .show (if id'=id then Ui n M0 H σ w Q .normal a' w' else Ui n M0 H σ w Q (.exit id') a' w');rw [if_neg hid];exact Came.mono hc λe' H' h=>by
    have h':(if id'=id then Q .normal e' H' else Q (.exit id') e' H'):=h;rw [if_neg hid] at h';exact h'
 | .loop b,Q,e,H,h,hok,σ,w,a,hS=>by
  unfold pM at h;obtain ⟨I,⟨e1,H1,hgh,k0,h0⟩,hI⟩:=h;obtain ⟨σ1,hS1,g2,g3⟩:=Mb hgh hS;let J:Nat->Act->World->Prop:=λk a' w'=>Came n M0 H σ w (I k) a' w'
  have hJ0:J k0 a w:=⟨e1,H1,σ1,h0,hS1,g2,g3⟩
  classical
  let μ:Act->World->Nat:=λa' w'=>if hx:∃ k,J k a' w' then Classical.choose (gW hx) else 0
  refine wp_loop (λa' w'=>∃ k,J k a' w') μ ⟨k0,hJ0⟩ λa' w' hx=>?_;have hμ:μ a' w'=Classical.choose (gW hx):=by simp only [μ,dif_pos hx]
  obtain ⟨e',H',σ',hi,hS',hst,hk⟩:=(AM (gW hx)).1;refine jM (qH hm b _ e' H' (hI _ e' H' hi) hok σ' w' a' hS') λex a'' w'' hc=>?_;have hc':=Came.trans hst hk hc;cases ex<;>first|exact hc'|skip
  obtain ⟨e20,H20,σ20,⟨e2,H2,hgh2,k',hlt,hk'⟩,hS2,hst2,hk2⟩:=hc';obtain ⟨σ2,j1,j2,j3⟩:=Mb hgh2 hS2;have rest:=xa1 j1 (hst2.trans j2) (hk2.trans j3);have hx2:∃ k,J k a'' w'':=⟨k',e2,H2,σ2,hk',rest⟩;refine ⟨hx2,?_⟩;have:μ a'' w''=Classical.choose (gW hx2):=by simp only [μ,dif_pos hx2]
  rw [this,hμ];refine Nat.lt_of_le_of_lt ?_ hlt;rcases bD k' (Classical.choose (gW hx2)) with hlt'|hge
  .exact absurd ⟨e2,H2,σ2,hk',rest⟩ ((AM (gW hx2)).2 k' hlt')
  .exact hge
 | .exit id,Q,e,H,h,_,σ,w,a,hS=>wp_exit ⟨e,H,σ,h,hS,.refl _ _,.refl _ _ _ _⟩
 | .ret,Q,e,H,h,_,σ,w,a,hS=>wp_ret ⟨e,H,σ,h,hS,.refl _ _,.refl _ _ _ _⟩
 | .rangeFunc ..,Q,e,H,h,_,_,_,_,_=>h.elim
 | .scope ..,Q,e,H,h,_,_,_,_,_=>h.elim
 | .label ..,Q,e,H,h,_,_,_,_,_=>h.elim
 | .goto ..,Q,e,H,h,_,_,_,_,_=>h.elim
 | .refuse ..,Q,e,H,h,_,_,_,_,_=>h.elim
end
end Go.Abs
end
section
namespace Go.Abs
def EB (P:Program):List ResultVar->dO->AHeap->(Xa2->Prop)->Prop
 | [],_,_,K=>K []
 | .tmp t :: r,e,H,K=>EB P r e H λl=>K (e t :: l)
 | .cell a ty :: r,e,H,K=>(pL P ty (e a) H).cond/\EB P r e H λl=>K ((pL P ty (e a) H).val :: l)
def HP:Xa2->D
 | [d]=>d
 | l=>.tup l
def UD (P:Program)(rs:List ResultVar)(Q:D->AHeap->Prop):Exit->dO->AHeap->Prop
 | .normal,e,H=>EB P rs e H λl=>Q (HP l) H
 | .ret,e,H=>EB P rs e H λl=>Q (HP l) H
 | _,_,_=>False
def D7 (args:Xa2):dO:=λt=>args.getD t .junk
def Fc (tmps:Array Value):ResultVar->Sem Value
 | .tmp t=>Pure.pure (tmps.getD t undef)
 | .cell x t=>do loadVar t (<- asAddr (tmps.getD x undef))
section
variable {P:Program} {M0:Nat→Prop} {H:AHeap} {σ:Nat→Option Ow} {w:World} {n:Nat} {e:dO} {a:Act}
theorem Ae (hS:St n M0 H σ w e a):∀ (rs:List ResultVar) (K:Xa2->Prop),EB P rs e H K ->
  ∃ vs l,Sem.run P (rs.mapM (Fc a.tmps)) w=Result.ok vs w/\RepL (dK M0 H σ) σ H.J w vs l/\K l
 | [],K,h=>⟨[],[],by simp,⟨rfl,λj u d hu=>by simp at hu⟩,h⟩
 | .tmp t :: rs,K,h=>by
  obtain ⟨vs,l,h1,h2,h3⟩:=Ae hS rs _ h;refine ⟨a.tmps.getD t undef :: vs,e t :: l,by simp [List.mapM_cons,Fc,h1],⟨by simp [h2.len],λj u d hu hd=>?_⟩,h3⟩;cases j with
  | zero=>simp only [mH,bG] at hu hd;subst hu;subst hd;exact hS.bz t
  | succ j=>exact h2.Y j u d (cG hu) (cG hd)
 | .cell x t :: rs,K,h=>by
  obtain ⟨vs,l,h1,h2,h3⟩:=Ae hS rs _ h.2;obtain ⟨_,_,v,hr,hv⟩:=P6 (P:=P) hS.a7 (hS.bz x) h.1;have hld:Sem.run P (Fc a.tmps (.cell x t)) w=.ok v w:=by
   simp only [Fc];unfold Instr.loadAt at hr;generalize a.tmps.getD x undef=q at hr ⊢;cases q with
   | pointer p=>cases p with
    | some ad=>simpa [Instr.sureAddr,asAddr] using hr
    | none=>simp [Instr.sureAddr,stuck] at hr
   | _=>simp [Instr.sureAddr,stuck] at hr
  refine ⟨v :: vs,_ :: l,by simp [List.mapM_cons,hld,h1],⟨by simp [h2.len],λj u d hu hd=>?_⟩,h3⟩;cases j with
  | zero=>simp only [mH,bG] at hu hd;subst hu;subst hd;exact hv
  | succ j=>exact h2.Y j u d (cG hu) (cG hd)
theorem Gd {fn:Func}{vs:List Value}{l:Xa2}(h:Sem.run P (fn.results.toList.mapM (Fc a.tmps)) w=.ok vs w)(b:RepL (dK M0 H σ) σ H.J w vs l) :
  ∃ v,(results fn a.tmps).run P w=.ok v w/\RepV (dK M0 H σ) σ H.J w v (HP l):=by
 have c:results fn a.tmps=(do let vs <- fn.results.mapM (Fc a.tmps);Pure.pure (if h:vs.size=1 then vs[0] else .tuple vs)):=rfl;rw [c,Array.mapM_eq_mapM_toList];refine ⟨if h:vs.toArray.size=1 then vs.toArray[0] else .tuple vs.toArray,by simp [h],?_⟩;by_cases f:vs.length=1
 .match vs,f,b with
  | [v],_,b =>
   match l,b with
   | [d],b=>simpa [HP] using b.Y 0 v d rfl rfl
   | [],b=>have:=b.len;simp at this
   | _ :: _ :: _,b=>have:=b.len;simp at this
 .have e:¬ vs.toArray.size=1:=by simpa using f
  rw [dif_neg e];have g:HP l=.tup l:=by
   match l,b with
   | [],_=>rfl
   | [d],b=>have:=b.len;simp at this;exact absurd this f
   | _ :: _ :: _,_=>rfl
  rw [g];exact .tup vs l b.len b.Y
theorem Zd {n:Nat}{vals:List Value}{args:Xa2}(e:Rel M0 H σ w)(a:RepL (dK M0 H σ) σ H.J w vals args)(c:args.length<=n):St n M0 H σ w (D7 args) { tmps:=vals.toArray++Array.replicate (n - vals.toArray.size) undef,defers:=[] }:=by
 refine ⟨e,λt=>?_,rfl,by simp [a.len];omega⟩;simp only [D7];by_cases b:t<vals.length
 .have h1:vals[t]?=some vals[t]:=aA b;have d:args[t]?=some (args[t]'(by rw [<- a.len];exact b)):=aA _;have:=a.Y t _ _ h1 d;rw [List.getD_eq_getElem?_getD,d];simp only [aF,mX];rw [Array.getElem?_append_left (cG b)];simpa [h1] using this
 .rw [List.getD_eq_getElem?_getD,bC (by rw [<- a.len];omega)];exact .junk _
theorem Yo {l r:List ResultVar}(h:l=r:=by first|exact @rfl (List Go.ResultVar) [.tmp _]|exact @rfl (List Go.ResultVar) []|exact @rfl (List Go.ResultVar) [.tmp _,.tmp _]|exact @rfl (List Go.ResultVar) [.cell _ _,.tmp _]|exact @rfl (List Go.ResultVar) [.cell _ _]|exact @rfl (List Go.ResultVar) [.cell _ _,.cell _ _,.tmp _]|exact @rfl (List Go.ResultVar) [.cell _ _,.cell _ _]|exact @rfl (List Go.ResultVar) [.tmp _,.cell _ _,.tmp _]|exact @rfl (List Go.ResultVar) [.tmp _,.tmp _,.tmp _]|exact @rfl (List Go.ResultVar) [.cell _ _,.tmp _,.tmp _]|exact @rfl (List Go.ResultVar) [.cell _ _,.cell _ _,.cell _ _]|exact @rfl (List Go.ResultVar) [.cell _ _,.cell _ _,.cell _ _,.tmp _]|exact @rfl (List Go.ResultVar) [.tmp _,.tmp _,.tmp _,.tmp _]):l=r:=h
theorem aI {f:FuncId}{fn:Func}{x:Code}{rs:List ResultVar}{cfg:Cfg}{args:Xa2}{Q:D->AHeap->Prop}(y:P.follows .mixedOrders=true)(r:P.funcs[f]?=some fn)(s:fn.body=some x)
  (n:(fn.name=="runtime.NumGoroutine")=false) (c:args.length<=fn.ntmps) (m:q9 cfg fn.ntmps x=true)
  (h:pM P cfg x (UD P rs Q) (D7 args) H) (u:fn.results.toList=rs:=by exact Yo):ACalls P f args H Q:=by
 subst u;refine ⟨⟨fn,r,n,by simp [s]⟩,λg σ w q E B=>calls_of_wp r s ?_⟩;have C:=Zd E B c;refine jM (qH y x _ _ H h m σ w _ C) λJ t b A=>?_;obtain ⟨K,p,σ',e,a,k,z⟩:=A;have o:EB P fn.results.toList K p (λl=>Q (HP l) p)->t.defers=[]/\∃ v,(results fn t.tmps).run P b=.ok v b /\
   ∃ v2 d H2 σ2,Ending.returned v=.returned v2/\Rel g H2 σ2 b/\RepV (dK g H2 σ2) σ2 H2.J b v2 d/\Stp σ w σ2 b/\Keeps (dK g H σ) σ H.J w (dK g H2 σ2) σ2 H2.J b/\Q d H2:=by
  intro e;obtain ⟨L,l,I,G,F⟩:=Ae a _ _ e;obtain ⟨v,j,i⟩:=Gd (fn:=fn) I G;exact ⟨a.defers,v,j,v,_,p,σ',rfl,a.a7,i,k,z,F⟩
 cases J<;>first|exact o e|exact e.elim
end
/-! ### pure contracts -/
theorem EE {l:Xa2}(h:∀ d∈l,d.U=true):D.N l=true:=by
 induction l with
 | nil=>rfl
 | cons a l ih=>simp [D.N,h a bS,ih λd hd=>h d (fg hd)]
def g9:Nat->Option Ow:=λ_=>none
def pT:Nat->Prop:=λ_=>False
def Pure (P:Program)(f:FuncId)(args:Xa2)(r:D):Prop :=
 XZ P f/\∀ (M:Nat->Prop) (w:World) (vals:List Value),(∀ b,M b->b<w.heap.size)->RepL M g9 pT w vals args ->
  Calls P f vals.toArray w λe w'=>∃ v,e=.returned v/\RepV M g9 pT w' v r/\RowKit.Below w.heap.size w w'
def Own (P:Program)(f:FuncId)(args:Xa2)(ty:TypeId)(sz:Nat)(es:Xa1):Prop :=
 XZ P f/\∀ (M:Nat->Prop) (w:World) (vals:List Value),(∀ b,M b->b<w.heap.size)->RepL M g9 pT w vals args ->
  Calls P f vals.toArray w λe w'=>∃ v xs,e=.returned v/\w'.ownsRow w.heap.size ty sz v es.length xs/\(∀ u∈xs,u.oneCell'=true)/\RepL (λb=>M b\/v.ownBlock=some b) g9 pT w' xs es.flatten/\D.T es=true/\(∀ c∈es,c.length=sz) /\
   RowKit.Below w.heap.size w w'
def sL (H:AHeap):D->D
 | .tup vs=>.tup (vs.map (jN H))
 | d=>jN H d
def Fk:D->List Nat
 | .tup vs=>vs.flatMap eE
 | d=>eE d
section
variable {P:Program} {M0:Nat→Prop} {H:AHeap} {σ:Nat→Option Ow} {w:World}
theorem v8 {v:Value}{d:D}(g:Rel M0 H σ w)(b:RepV (dK M0 H σ) σ H.J w v d)(a:List Nat)(f:∀ i∈Fk d,i∈a) :
  RepV (dK M0 (fH a H) σ) σ (fH a H).J w v (sL H d):=by
 cases d with
 | tup vs =>
  cases b
  rename_i h l k;refine .tup h _ (cG l) λj u x hu b=>?_;rw [aW,bQ] at b;obtain ⟨y,e,rfl⟩:=b;exact oB g (k j u y hu e) a λi c=>f i (by simp only [Fk,bM];exact ⟨y,aK e,c⟩)
 | _=>exact oB g b a f
theorem Hu (M:Nat->Prop):dK M .ak g9=M:=by
 funext b;exact propext ⟨λh=>h.elim (λh=>h) λ⟨_,_,_,h,_⟩=>by simp [AHeap.ak] at h,.inl⟩
theorem Ho (M:Nat->Prop)(w:World)(hM:∀ b,M b->b<w.heap.size):Rel M .ak g9 w :=
 ⟨λ_ _=>⟨rfl,rfl⟩,λ_ h=>h.elim,λ_ _ h=>by simp [AHeap.ak] at h,λ_ _ _ _ _ h=>by simp [g9] at h,λ_ _ _ h=>by simp [g9] at h,hM⟩
theorem BJ {σ':Nat->Option Ow}{w':World}(h:Stp g9 w σ' w'):RowKit.Below w.heap.size w w' :=
 ⟨h.os,h.tape,h.output,h.size,λb hb=>h.bc b hb λ_ _ h=>by simp [g9] at h⟩
theorem aV {f:FuncId}{args:Xa2}{r:D}(h:ACalls P f args .ak λd H'=>sL H' d=r/\r.U=true):Pure P f args r:=by
 refine ⟨h.1,λM w vals hM ha=>(h.2 M g9 w vals (Ho M w hM) (by rw [Hu];exact ha)).mono λe w' ⟨v,d,H',σ',k,m,g,a,n,j,b⟩=>⟨v,k,?_,BJ a⟩⟩;have c:=v8 m g (Fk d) λi hi=>hi;rw [j] at c;exact c.closed (λad u hm l=>⟨λh=>hm (.inl h),l⟩) b
theorem DL {f:FuncId}{args:Xa2}{ty:TypeId}{sz:Nat}{es:Xa1}
  (h:ACalls P f args .ak λd H'=>∃ id k,d=.own id es.length/\H'.get id=some k/\k.es=es/\k.ty=ty/\k.sz=sz/\k.fz=false/\D.T es=true):Own P f args ty sz es:=by
 refine ⟨h.1,λM w vals hM ha=>(h.2 M g9 w vals (Ho M w hM) (by rw [Hu];exact ha)).mono λe w' ⟨v,d,H',σ',K,L,H,n,Q,id,k,q,i,r,N,B,y,p⟩=>?_⟩;subst q;subst r;subst N;subst B;obtain ⟨o,x,l⟩:=L.ah id k i;obtain ⟨G,a,t,b⟩:=l.row;cases H
 rename_i _ _ m;rcases m o x with J|⟨_,rfl⟩
 .have:=l.af;omega
 .refine ⟨o.val,G,K,?_,t,⟨b.len,λj u d hu q=>(b.Y j u d hu q).closed (λad u hm A=>⟨λh=>hm (h.elim .inl λh=>.inr ⟨id,k,o,i,y,x,h⟩),A⟩) ?_⟩,p,λc A=>(l.K c A).trans l.sz,BJ n⟩
  .rw [<- l.sz];refine ⟨a.1,?_⟩;rcases a.2 with I|⟨g,E,C,r,_,B⟩
   .exact .inl I
   .refine .inr ⟨g,E,C,r,?_,B⟩;rcases n.new id o g x (by simp [Ow.block,r,Value.ownBlock]) with h|⟨_,O,h,_⟩
    .exact h
    .simp [g9] at h
  .obtain ⟨c,z,s⟩:=iI.1 (aK q);exact iR (p8 p c z) d s
theorem wP {M:Nat->Prop}{N:Nat->Prop}:Keeps M g9 pT w M σ N w:=⟨λ_ _ h k=>⟨h,k⟩,λ_ _ h=>h.elim,λ_ h=>h.elim⟩
theorem iE {M M':Nat->Prop}{N N':Nat->Prop}{σ':Nat->Option Ow}(hM:∀ b,¬ M b->¬ M' b){vs:List Value}{ds:Xa2}(h:RepL M σ N w vs ds)(hc:D.N ds=true):RepL M' σ' N' w vs ds :=
 ⟨h.len,λj u d hu hd=>(h.Y j u d hu hd).closed (λad u hm hc=>⟨hM _ hm,hc⟩) (iR hc d (aK hd))⟩
theorem rS (a:Rel M0 H σ w):∀ b,dK M0 H σ b->b<w.heap.size:=by
 rintro b (h|⟨i,k,o,_,_,c,d⟩)
 .exact a.m0 b h
 .exact (a.lt i o b c d).1
theorem tY {f:FuncId}{args:Xa2}{r:D}{Q:D->AHeap->Prop}(c:Pure P f args r)(b:D.N args=true)(i:Q r H):ACalls P f args H Q:=by
 refine ⟨c.1,λM0 σ w vals hR ha=>(c.2 (dK M0 H σ) w vals (rS hR) (iE (λ_ h=>h) ha b)).mono λe w' ⟨v,g,d,a⟩=>?_⟩;obtain ⟨l,k,j⟩:=hR.grow a.os a.tape a.output a.size a.block;exact ⟨v,r,H,σ,g,l,d.G wP,k,j,i⟩
theorem Dz {M0:Nat->Prop}(hR:Rel M0 H σ w){vals:List Value}{args:Xa2}(ha:RepL (dK M0 H σ) σ H.J w vals args)(ids:List Nat)(hi:∀ i∈args.flatMap eE,i∈ids) :
  RepL (dK M0 (fH ids H) σ) σ (fH ids H).J w vals (args.map (jN H)) :=
 ⟨by simpa using ha.len,λj u d hu hd=>by
  rw [aW,bQ] at hd;obtain ⟨y,hy,rfl⟩:=hd;exact oB hR (ha.Y j u y hu hy) ids λi hii=>hi i (bM.2 ⟨y,aK hy,hii⟩)⟩
def D.bu:D->Bool
 | .int .. | .bool _ | .str _ | .nil | .nilp | .nilf=>true
 | _=>false
def D.flat:D->Bool
 | .tup vs=>vs.all D.bu
 | d=>d.bu
theorem Mi {M c:Nat->Prop}{N b:Nat->Prop}{σ σ':Nat->Option Ow}{w w':World}{v:Value}{d:D}(h:RepV M σ N w v d)(a:d.bu=true):RepV c σ' b w' v d:=by
 cases h<;>first|(simp [D.bu] at a;done)|constructor
theorem yT {M g:Nat->Prop}{N f:Nat->Prop}{σ σ':Nat->Option Ow}{w w':World}{v:Value}{d:D}(h:RepV M σ N w v d)(a:d.flat=true):RepV g σ' f w' v d:=by
 cases d with
 | tup vs =>
  cases h
  rename_i b e c;simp only [D.flat,cF] at a;exact .tup b vs e λj u x hu hx=>Mi (c j u x hu hx) (a x (aK hx))
 | _=>exact Mi h a
theorem Ag {f:FuncId}{args:Xa2}{r:D}{Q:D->AHeap->Prop}(c:Pure P f (args.map (jN H)) r)(b:D.N (args.map (jN H))=true)(g:r.flat=true)(k:Q r H):ACalls P f args H Q:=by
 refine ⟨c.1,λM0 σ w vals hR ha=>?_⟩;obtain ⟨o,s,q,p⟩:=fQ (args.flatMap eE) hR;refine (c.2 (dK M0 (fH (args.flatMap eE) H) σ) w vals (rS o) (iE (λ_ h=>h) (Dz hR ha _ λi h=>h) b)).mono λe w' ⟨v,j,d,a⟩=>?_;obtain ⟨n,m,l⟩:=hR.grow a.os a.tape a.output a.size a.block;exact ⟨v,r,H,σ,j,n,yT d g,m,l,k⟩
theorem Ot {f:FuncId}{args:Xa2}{r:D}{Q:D->AHeap->Prop}(c:Pure P f (args.map (jN H)) r)(b:D.N (args.map (jN H))=true)(k:Q r (fH (args.flatMap eE) H)):ACalls P f args H Q:=by
 refine ⟨c.1,λM0 σ w vals hR ha=>?_⟩;obtain ⟨d,o,q,p⟩:=fQ (args.flatMap eE) hR;refine (c.2 (dK M0 (fH (args.flatMap eE) H) σ) w vals (rS d) (iE (λ_ h=>h) (Dz hR ha _ λi h=>h) b)).mono λe w' ⟨v,j,g,a⟩=>?_;obtain ⟨n,m,l⟩:=d.grow a.os a.tape a.output a.size a.block;exact ⟨v,r,_,σ,j,n,g.G wP,m,o.trans l,k⟩
theorem Q5 {f:FuncId}{args:Xa2}{ty:TypeId}{sz:Nat}{es:Xa1}{Q:D->AHeap->Prop}(S:Own P f args ty sz es)(L:D.N args=true)
  (hQ:Q (.own H.next es.length) (H.push H.next ⟨ty,sz,es,false⟩)):ACalls P f args H Q:=by
 refine ⟨S.1,λM0 σ w vals hR ha=>(S.2 (dK M0 H σ) w vals (rS hR) (iE (λ_ h=>h) ha L)).mono λe w' ⟨v,O,he,k,N,y,A,I,C⟩=>?_⟩;have p:w'.ownsRow 0 ty sz v es.length O:=⟨k.1,k.2.imp (λx=>x) λ⟨g,s,r,a,b,c⟩=>⟨g,s,r,a,dN _,c⟩⟩;have M:∀ b,v.ownBlock=some b->w.heap.size<=b:=λb j=>by
  rcases k.2 with E|⟨g,s,r,N,h2,h3⟩
  .rw [E.1] at j;simp [Value.ownBlock] at j
  .rw [N] at j;simp only [Value.ownBlock,bG] at j;omega
 have hG:∀ F,¬ (dK M0 H σ F\/v.ownBlock=some F)->¬ dK M0 (H.push H.next ⟨ty,sz,es,false⟩) (λi=>if i=H.next then some ⟨es.length,v,sz,ty⟩ else σ i) F:=by
  intro F J h;rcases h with h|⟨i,Y,X,z,Z,m,j⟩
  .exact J (.inl (.inl h))
  .by_cases q:i=H.next
   .simp only [q,if_true,bG] at m;subst m;exact J (.inr j)
   .simp only [q,if_false] at m;simp only [AHeap.push,q,if_false] at z;exact J (.inl (.inr ⟨i,Y,X,z,Z,m,j⟩))
 have B:D.N es.flatten=true:=EE λd hd=>by
  obtain ⟨c,K,G⟩:=iI.1 hd;exact iR (p8 A c K) d G
 obtain ⟨W,V,U⟩:=Rel.ce hR H.next (λh=>j4 _ (hR.bb _ h)) (w':=w') C.os C.tape C.output C.size C.block ⟨ty,sz,es,false⟩ ⟨es.length,v,sz,ty⟩
  M rfl rfl rfl I O p N (λhk=>iE hG y B)
 exact ⟨v,_,_,_,he,W,.own v _ _ (.inl rfl) (by rcases k.2 with ⟨E,_⟩|⟨g,s,r,E,_⟩<;>simp [E,Value.oneCell']) (λo ho=>by simp at ho;subst ho;exact .inr ⟨rfl,rfl⟩),V,U,hQ⟩
end
end Go.Abs
end

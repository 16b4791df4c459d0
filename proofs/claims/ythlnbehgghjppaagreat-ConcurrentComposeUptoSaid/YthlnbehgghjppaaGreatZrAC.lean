/- The abstraction layer, part J: slices of slices and strings; -/
import Derived.Test.YthlnbehgghjppaaGreatZrAB
set_option linter.unusedVariables false
set_option linter.unusedSimpArgs false
section
namespace Go.Abs
section
variable {P:Program} {M0:Nat→Prop} {H:AHeap} {σ:Nat→Option Ow} {w:World}
theorem tF {n:Nat}:∀ (es:Xa1) (i:Nat),(∀ c∈es,c.length=n)->(es.take i).flatten=es.flatten.take (i * n)
 | [],i,_=>by simp
 | e :: es,0,_=>by simp
 | e :: es,i+1,hl=>by
  have he:=hl e eG;simp only [u0,eQ,tF es i (λc hc=>hl c (by simp [hc])),Bw,Nat.add_mul,he];rw [aH (by omega:e.length<=i * n+1 * n)];congr 2;omega
theorem tG {n:Nat}:∀ (es:Xa1) (i:Nat),(∀ c∈es,c.length=n)->(es.drop i).flatten=es.flatten.drop (i * n)
 | [],i,_=>by simp
 | e :: es,0,_=>by simp
 | e :: es,i+1,hl=>by
  have he:=hl e eG;simp only [List.drop_succ_cons,eQ,tG es i (λc hc=>hl c (by simp [hc])),List.drop_append,Nat.add_mul,he];rw [iT (by omega:e.length<=i * n+1 * n)];simp only [dS];congr 1;omega
theorem Bb {M:Nat->Prop}{N:Nat->Prop}{b:Option Value}{c:Option D}{a n:Int}(h:∀ v x,b=some v->c=some x->RepV M σ N w v x)(e:b.isSome=c.isSome)(d:VY c a=some n) :
  (b=none/\n=a)\/∃ k,b=some (.int k n):=by
 cases c with
 | none=>cases b with
  | none=>simp [VY] at d;exact .inl ⟨rfl,d.symm⟩
  | some v=>simp at e
 | some x=>cases b with
  | none=>simp at e
  | some v =>
   have:=h v x rfl rfl;cases x<;>simp [VY] at d
   cases this
   grind
theorem Bd {e:TypeId}{t:TypeId}(n:P.underlying t=some (.slice e)){v:TypeInfo}(f:P.info? e=some v)(a:Option Addr)(len d:Nat)(z:len<=d)(p u:Option Value)(l h:Int)
  (A:(p=none/\l=0)\/∃ k,p=some (.int k l)) (B:(u=none/\h=len)\/∃ k,u=some (.int k h)) (y:0<=l) (C:l<=h) (F:h<=len) :
  (Instr.sliceAt t (.slice a len d) p u none).run P w=.ok (.slice (if d=l.toNat then a else a.map (·.add (l.toNat * v.size))) (h.toNat - l.toNat) (d - l.toNat)) w:=by
 have g:h<=(d:Int):=bZ;have o:∀ (x:Nat) (k:IntKind) (i:Int) (j:BoundsCode),0<=i->i<=(x:Int)->(Instr.sliceBound (.int k i) x j).run P w=.ok i.toNat w:=by
  intro x k i j s r;simp [Instr.sliceBound,asIntOf,s,r]
 rcases A with ⟨rfl,rfl⟩|⟨D,rfl⟩<;>rcases B with ⟨rfl,rfl⟩|⟨E,rfl⟩
 .simp [Instr.sliceAt,Instr.slice,run_underlying n,Instr.sliceBounds,sizeOf,typeInfo,f]
 .simp [Instr.sliceAt,Instr.slice,run_underlying n,Instr.sliceBounds,sizeOf,typeInfo,f,o _ _ _ _ (by omega:(0:Int)<=h) g]
 .simp [Instr.sliceAt,Instr.slice,run_underlying n,Instr.sliceBounds,sizeOf,typeInfo,f,o len _ _ _ y C]
 .have q:l<=(h.toNat:Int):=bZ;simp [Instr.sliceAt,Instr.slice,run_underlying n,Instr.sliceBounds,sizeOf,typeInfo,f,o _ _ _ _ (by omega:(0:Int)<=h) g,o _ _ _ _ y q]
theorem Ju {t:TypeId}(c:P.underlying t=some .string)(s:ByteArray)(e m:Option Value)(l h:Int)
  (p:(e=none/\l=0)\/∃ k,e=some (.int k l)) (q:(m=none/\h=s.size)\/∃ k,m=some (.int k h)) (o:0<=l) (r:l<=h) (n:h<=s.size) :
  (Instr.sliceAt t (.string s) e m none).run P w=.ok (.string (s.extract l.toNat h.toNat)) w:=by
 have d:∀ (x:Nat) (k:IntKind) (i:Int) (a:BoundsCode),0<=i->i<=(x:Int)->(Instr.sliceBound (.int k i) x a).run P w=.ok i.toNat w:=by
  intro x k i a j g;simp [Instr.sliceBound,asIntOf,j,g]
 rcases p with ⟨rfl,rfl⟩|⟨u,rfl⟩<;>rcases q with ⟨rfl,rfl⟩|⟨v,rfl⟩
 .simp [Instr.sliceAt,Instr.slice,run_underlying c,Instr.sliceBounds]
 .simp [Instr.sliceAt,Instr.slice,run_underlying c,Instr.sliceBounds,d _ _ _ _ (by omega:(0:Int)<=h) n]
 .simp [Instr.sliceAt,Instr.slice,run_underlying c,Instr.sliceBounds,d s.size _ _ _ o r]
 .have f:l<=(h.toNat:Int):=bZ;simp [Instr.sliceAt,Instr.slice,run_underlying c,Instr.sliceBounds,d _ _ _ _ (by omega:(0:Int)<=h) n,d _ _ _ _ o f]
theorem NP {t:TypeId}{vx:Value}{x:D}{vlo vhi:Option Value}{X Y:Option D}(Z:Rel M0 H σ w)(hx:RepV (dD M0 H σ) σ H.H w vx x)
  (U:∀ v x,vlo=some v->X=some x->RepV (dD M0 H σ) σ H.H w v x) (E:vlo.isSome=X.isSome)
  (V:∀ v x,vhi=some v->Y=some x->RepV (dD M0 H σ) σ H.H w v x) (G:vhi.isSome=Y.isSome) (p:(rX P t x X Y H).cond) :
  (rX P t x X Y H).ae/\OpS P (Instr.sliceAt t vx vlo vhi none) M0 H σ w (rX P t x X Y H).val (rX P t x X Y H).heap:=by
 unfold rX at *;split at p
 .rename_i es;split at p
  .rename_i s l h hs hl hh;obtain ⟨J,L,h2,h3⟩:=p;obtain ⟨i,ti,z,B,hz,F,_,b4,_,_,b1,_⟩:=tC hs;have T:=Bb U E hl;have O:=Bb V G hh;obtain ⟨a,rfl⟩:=fB J;obtain ⟨b,rfl⟩:=fB (Int.le_trans J L);simp only [Int.toNat_natCast];have b8:a<=b:=bZ;have K:b<=es.length:=bZ;refine ⟨trivial,?_⟩;rcases uK hx with ⟨rfl,rfl⟩|⟨ad,y,sz,xs,rfl,R,a5,W,a8,hm,q⟩
   .have f:=Bd (P:=P) (w:=w) i B none 0 0 (bD _) vlo vhi a b T O J L (eL h2);simp at K;subst K;have:a=0:=bZ;subst this;refine .pure Z f ?_;simpa using RepV.listN
   .have f:=Bd (P:=P) (w:=w) i B (some ad) es.length y a8 vlo vhi a b T O J L h2;simp only [Int.toNat_natCast,eV] at f;have S:((es.take b).drop a).length=b - a:=by simp;omega
    have a0:es≠[]->sz=s.Z:=λhne=>by
     cases es with
     | nil=>exact absurd rfl hne
     | cons e es=>simp at h3;exact (q e eG).symm.trans h3
    rw [F] at f;refine .pure Z f ?_;have a2:∀ c∈(es.take b).drop a,c.length=sz:=λc p=>q c (dL (fM p));have I:((es.take b).drop a).flatten=(es.flatten.take (b * sz)).drop (a * sz):=by
     rw [tG _ a (λc p=>q c (dL p)),tF _ b q]
    by_cases a4:y=a
    .have b0:b=a:=bZ;subst b0;simp only [a4,if_true];have r:(es.take b).drop b=[]:=iT (by simp;omega);rw [r];have:=RepV.list (M:=dD M0 H σ) (σ:=σ) (N:=H.H) (w:=w) ad (b - b) 0 [] [] eG eG eG rfl eG (λj u i=>by simp at i) (λj u d i=>by simp at i);simpa using this
    .rw [if_neg a4];have hv:=RepV.list (M:=dD M0 H σ) (σ:=σ) (N:=H.H) (w:=w) (ad.add (a * s.Z)) (y - a) sz ((xs.take (b * sz)).drop (a * sz)) ((es.take b).drop a) (by rw [S];omega) bZ a2
      (by rw [I];simp [R.len]) (λu i=>a5 u (dL (fM i))) (λj u i=>by
       rw [cF,b9] at i;split at i
       .obtain ⟨h5,h6⟩:=W _ u i;rw [i6,D6];refine ⟨h5,?_⟩;rw [<- a0 (λe=>by subst e;simp at K;subst K;simp at *)];exact h6
       .cases i) (λj u d i hd=>by
       rw [I,cF,b9] at hd;rw [cF,b9] at i;split at i
       .rename_i hj;rw [if_pos hj] at hd;exact R.ad _ u d i hd
       .cases i)
     rw [S] at hv;exact hv
  .exact p.elim
 .rename_i id m;split at p
  .rename_i s k l h hs hk hl hh;obtain ⟨⟨J,L,h2⟩,a3,a9⟩:=p;obtain ⟨i,ti,z,B,hz,F,_⟩:=tC hs;have T:=Bb U E hl;have O:=Bb V G hh;obtain ⟨a,rfl⟩:=fB J;obtain ⟨b,rfl⟩:=fB (Int.le_trans J L);simp only [Int.toNat_natCast];obtain ⟨o,ho,lz⟩:=Z.ak id k hk;obtain ⟨xs,a1,_,_⟩:=lz.row;cases hx
   rename_i b2 hN h;refine ⟨trivial,?_⟩;rcases h o ho with h'|⟨c0,rfl⟩
   .have:=lz.ai;omega
   .have C:∀ o',σ id=some o'->o'=o:=λo' ho'=>by rw [ho] at ho';exact (Option.some.inj ho').symm
    rcases a1.2 with ⟨r,b3⟩|⟨g,y,c1,Q,b7,hg,a7,b6,b5,a6⟩
    .have f:=Bd (P:=P) (w:=w) i B none 0 0 (bD _) vlo vhi a b T (by rw [(bZ:m=0)] at O;exact O) J L bZ;have ha:a=0:=bZ;have hb:b=0:=bZ;subst ha hb;rw [r];refine .pure Z (eL f) (.win _ id m 0 0 hN rfl ⟨bD _,d9 _⟩ λo' ho'=>.inr ⟨?_,.inl ⟨?_,rfl,rfl⟩⟩)
     .rw [C o' ho'];omega
     .rw [C o' ho'];exact r
    .have f:=Bd (P:=P) (w:=w) i B (some ⟨g,0,none⟩) k.T.length y a7 vlo vhi a b T (by rw [a3];exact O) J L bZ;rw [Q];refine .pure Z f ?_;refine .win _ id m a b hN rfl ⟨bZ,bZ⟩ λo' ho'=>.inr ⟨?_,.inr ⟨g,y,?_,bZ,?_⟩⟩
     .rw [C o' ho'];omega
     .rw [C o' ho',Q,a3]
     .rw [C o' ho',lz.Z,a9,F];simp only [Int.toNat_natCast];split<;>simp [kB]
  .exact p.elim
 .rename_i s;split at p
  .rename_i l h i hl hh;obtain ⟨J,L,h2⟩:=p;cases hx
   have T:=Bb U E hl;have O:=Bb V G hh;exact ⟨trivial,.pure Z (Ju i s vlo vhi l h T O J L h2) (.str _)⟩
  .exact p.elim
 .exact p.elim
theorem Yj {a:Nat}{k:Blk}(b:H.get a=some k):H.put a k=H:=by
 unfold AHeap.put;have:(λi=>if i=a then some k else H.get i)=H.get:=by
  grind
 rw [this]
theorem SQ {es:Xa1}{b a:Nat}{z:Xa2}(c:b<=a)(d:a<=es.length):(es.take b++List.replicate (a - b) z++es.drop a).length=es.length:=by simp;omega
theorem Nx {n:Nat}{es:Xa1}{a b:Nat}{z:Xa2}(d:∀ c∈es,c.length=n)(f:z.length=n)(g:a<=b)(i:b<=es.length) :
  (es.take a++List.replicate (b - a) z++es.drop b).flatten=es.flatten.take (a * n)++(List.replicate (b - a) z).flatten++es.flatten.drop (a * n+(List.replicate (b - a) z).flatten.length):=by
 rw [g6,g6,tF es a d,tG es b d,nK,f,<- Nat.add_mul,(bZ:a+(b - a)=b)]
theorem PK {t ty:TypeId}{V:Value}{x:D}(hR:Rel M0 H σ w)(hx:RepV (dD M0 H σ) σ H.H w V x)(hc:(wR P t x H).cond) :
  (wR P t x H).ae/\OpS P (Builtin.clear_ #[t] ty #[V]) M0 H σ w (wR P t x H).val (wR P t x H).heap:=by
 unfold wR at *;split at hc
 .rename_i id ver a c;split at hc
  .rename_i s k hs hk;obtain ⟨b1,Z,c7,a9⟩:=hc;obtain ⟨f,ti,z,a8,hz,c0,_,c8,_,X,v,a1,a7⟩:=tC hs;obtain ⟨o,ho,l⟩:=hR.ak id k hk;obtain ⟨U,a2,Y,n⟩:=l.row;have d0:=l.ai;cases hx
   rename_i b7 hN a5 h;have hw:VR o V ver a c:=by
    rcases h o ho with h'|⟨_,R⟩
    .omega
    .exact R
   have L:a=c->(k.T.take a++List.replicate (c - a) s.z++k.T.drop c)=k.T:=λe=>by subst e;simp
   have a0:RepV (dD M0 H σ) σ H.H w (.tuple #[]) (.tup []):=.tup [] [] rfl (λj u d f m=>by simp at f);refine ⟨trivial,?_⟩;have y:a=c->(Builtin.clear_ #[t] ty #[V]).run P w=.ok (.tuple #[]) w->OpS P (Builtin.clear_ #[t] ty #[V]) M0 H σ w (.tup []) (H.put id { k with T:=k.T.take a++List.replicate (c - a) s.z++k.T.drop c }):=λe A=>by
    rw [L e,Yj hk];exact .pure hR A a0
   rcases hw with ⟨R,rfl,h4⟩|⟨b,S,R,c3,rfl⟩
   .exact y bZ (by simp [Builtin.clear_,run_underlying f])
   .by_cases he:a=c
    .refine y he ?_;subst he;simp [Builtin.clear_,run_underlying f]
    .have b4:S≠a:=bZ;rw [if_neg b4];rcases a2.2 with ⟨I,_⟩|⟨g,c4,i,G,b5,hg,a4,b3,b2,K⟩
     .rw [R] at I;cases I
     .rw [R] at G;cases G
      have F:o.J=s.Z:=l.Z.trans a9;have c5:U.length=k.T.length * o.J:=n.len.trans (mI k.T l.J);have c2:k.T.length * o.J<=i.size:=by rw [b2];exact fL _ a4
      obtain ⟨hr,h1⟩:=r3 (M:=dD M0 H σ) (σ:=σ) (N:=H.H) (w:=w) z (c - a) bZ (by rw [<- X];exact a7);rw [<- X] at hr;have r:(madeCells z.cells ((c - a) * z.cells.size)).toList.length=(c - a) * o.J:=by simp [size_madeCells,a1,F]
      have c9:(madeCells z.cells ((c - a) * z.cells.size)).size=(c - a) * o.J:=by rw [<- r,fY]
      have b8:a * o.J+(c - a) * o.J=c * o.J:=by rw [<- Nat.add_mul,(bZ:a+(c - a)=c)]
      have c1:c * o.J<=k.T.length * o.J:=fL _ bZ;have E:=run_storeCells_at (P:=P) b (a * o.J) k.ty (madeCells z.cells ((c - a) * z.cells.size)).toList 0 i w hg (by rw [r];omega) h1;simp only [u5] at E;have J:∀ w,(zeroValue s.e).run P w=.ok z w:=λw=>by simp [zeroValue,typeInfo,a8,hz]
      obtain ⟨q,hq⟩:∃ q,c - a=q+1:=⟨c - a - 1,bZ⟩;have A:(Builtin.clear_ #[t] ty #[.slice (some ⟨b,a * o.J,none⟩) (c - a) (S - a)]).run P w=.ok (.tuple #[]) (w.setRow b (i.toList.take (a * o.J)++(madeCells z.cells ((c - a) * z.cells.size)).toList++i.toList.drop (a * o.J+(madeCells z.cells ((c - a) * z.cells.size)).toList.length)).toArray):=by
       rw [hq] at E ⊢;simp only [Builtin.clear_];simp [run_underlying f,J];have b0:Builtin.zeroCells z.cells (q+1)=madeCells z.cells ((q+1) * z.cells.size):=rfl;rw [b0];simp at E;simp [E]
      have C:=SQ (z:=s.z) a5.1 (bZ:c<=k.T.length);have a6:=Nx (z:=s.z) l.J (by rw [v,F]) a5.1 (bZ:c<=k.T.length);have a3:(List.replicate (c - a) s.z).flatten.length=(c - a) * o.J:=by rw [nK,v,F]
      have hp:=Rel.put hR hk b1 ho { k with T:=k.T.take a++List.replicate (c - a) s.z++k.T.drop c } o (w':=w.setRow b (i.toList.take (a * o.J)++(madeCells z.cells ((c - a) * z.cells.size)).toList++i.toList.drop (a * o.J+(madeCells z.cells ((c - a) * z.cells.size)).toList.length)).toArray)
       ⟨rfl,rfl,rfl,by simp,λq _ hq=>setRow_other w b q _ (λe=>hq (by rw [e];simp [Ow.block,R,Value.ownBlock]))⟩ (λb' hb'=>.inl hb') (.inl rfl) (by rw [C];exact l.ai) l.ty l.Z
       (λd m=>by
        simp only [bE] at m;rcases m with (m|m)|m
        .exact l.J d (dL m)
        .rw [lU m,v,F]
        .exact l.J d (fM m))
       (U.take (a * o.J)++(madeCells z.cells ((c - a) * z.cells.size)).toList++U.drop (a * o.J+(madeCells z.cells ((c - a) * z.cells.size)).toList.length))
       ⟨by simp only [aQ,dF,iD,r,C];omega,.inr ⟨b,S,_,by rw [C];simpa [Z] using R,b5,setRow_heap w b i _ k.ty _ hg,by rw [C];exact a4,b3,by simp only [oW,aQ,dF,iD,r,fY];omega,by
        simp only [C];rw [<- K];apply f9;intro j;simp only [b9,jX,dF,cF,fY];by_cases hj:j<k.T.length * o.J
        .rw [if_pos hj];have m1:min (a * o.J) i.size=a * o.J:=bZ;have m2:min (a * o.J) (min (k.T.length * o.J) i.size)=a * o.J:=bZ;rw [m1,m2];split
         .first|rfl|rw [if_pos hj]
         .split
          .rfl
          .first|rfl|rw [if_pos bZ]
        .rw [if_neg hj];have m2:min (a * o.J) (min (k.T.length * o.J) i.size)=a * o.J:=bZ;rw [m2,if_neg bZ,if_neg bZ,if_neg bZ]⟩⟩
       (λu f=>by
        simp only [bE] at f;rcases f with (f|f)|f
        .exact Y u (dL f)
        .exact h1 u f
        .exact Y u (fM f))
       ⟨by simp only [a6,aQ,dF,iD,r,a3,n.len],λj u d f m=>by
        simp only [a6] at m;have Q:k.T.flatten.length=U.length:=n.len.symm;simp only [jX,dF,b9,cF,Q,r,a3] at f m;have m1:min (a * o.J) U.length=a * o.J:=bZ;rw [m1] at f m;split at m
        .rename_i B;rw [if_pos B] at f;try rw [if_pos B] at f
         try rw [if_pos B] at m
         exact n.ad j u d f m
        .rename_i B;rw [if_neg B] at f;split at m
         .rename_i O;rw [if_pos O] at f;exact hr.ad _ u d f m
         .rename_i O;rw [if_neg O] at f;exact n.ad _ u d f m⟩
      simp only [HL o id ho] at hp;exact ⟨_,_,σ,A,hp.1,.tup [] [] rfl (λj u d f m=>by simp at f),hp.2.1,hp.2.2⟩
  .exact hc.elim
 .exact hc.elim
theorem O7 {t:TypeId}{A B:Value}{x i:D}(G:Rel M0 H σ w)(E:RepV (dD M0 H σ) σ H.H w A x)(F:RepV (dD M0 H σ) σ H.H w B i)(c:(uV P t x i H).cond) :
  (uV P t x i H).ae/\OpS P (Instr.index t A B) M0 H σ w (uV P t x i H).val (uV P t x i H).heap:=by
 unfold uV at *;split at c
 .rename_i s J n;split at c
  .rename_i l;obtain ⟨y,Q⟩:=c;cases E;cases F
   obtain ⟨q,rfl⟩:=fB y;have hq:q<s.size:=bZ;have hq':q<s.data.size:=hq;refine ⟨trivial,.pure G (v:=.int .u8 ((s.data[q]'hq').toNat:Int)) ?_ ?_⟩
   .have:s[q]?=some (s[q]'hq):=by simp [hq]
    simp [Instr.index,asIntOf,run_underlying l,this];rfl
   .have e:s.data[q]?=some (s.data[q]'hq'):=bM hq';simp only [Int.toNat_natCast,e,aD];exact .int _ _
  .exact c.elim
 .rename_i V J n;split at c
  .rename_i I S g e M l;split at c
   .rename_i m;obtain ⟨⟨y,Q⟩,O,u⟩:=c;cases E;cases F
    rename_i z K T L;obtain ⟨q,rfl⟩:=fB y;simp only [Int.toNat_natCast] at u ⊢;obtain ⟨U,R,d,r,j⟩:=PT M;rw [l] at d;simp at d;obtain ⟨rfl,rfl⟩:=d;have N:=Un (w:=w) m;have hq:q<z.length:=bZ;have o:q<g:=bZ;refine ⟨trivial,.pure G (v:=z[q]) ?_ ?_⟩
    .simp [Instr.index,asIntOf,run_underlying l,o,sizeOf,typeInfo,r,j,O,part,N,hq]
    .rw [aA u];exact L q _ _ (aA hq) (aA u)
   .exact c.elim
  .exact c.elim
 .exact c.elim
end
end Go.Abs
end
section
namespace Go.Abs
section
variable {P:Program} {M0:Nat→Prop} {H:AHeap} {σ:Nat→Option Ow} {w:World}
def V9 (P:Program)(x:Sem Next)(M0:Nat->Prop)(H:AHeap)(σ:Nat->Option Ow)(w:World)(d:D)(H':AHeap):Prop :=
 ∃ v w' σ',(x.run P w=.ok (.value v) w'\/(x.run P w=.ok .skip w'/\v=undef))/\Rel M0 H' σ' w'/\RepV (dD M0 H' σ') σ' H'.H w' v d/\Stp σ w σ' w' /\
  Keeps (dD M0 H σ) σ H.H w (dD M0 H' σ') σ' H'.H w'
theorem OpS.next {x:Sem Value}{d:D}{H':AHeap}(h:OpS P x M0 H σ w d H'):V9 P (do Pure.pure (Next.value (<- x))) M0 H σ w d H':=by
 obtain ⟨v,a,σ',b,g,f,e,c⟩:=h;exact ⟨v,a,σ',.inl (by simp [b]),g,f,e,c⟩
theorem OpU.next {x:Sem Unit}{H':AHeap}(h:OpU P x M0 H σ w H'):V9 P (do x;Pure.pure Next.skip) M0 H σ w .junk H':=by
 obtain ⟨b,σ',c,f,e,d⟩:=h;exact ⟨undef,b,σ',.inr ⟨by simp [c],rfl⟩,f,.junk _,e,d⟩
def EnvR (M:Nat->Prop)(σ:Nat->Option Ow)(N:Nat->Prop)(w:World)(ρ:Operand->Value)(e:Nat->D):Prop :=
 (∀ t,RepV M σ N w (ρ (.tmp t)) (e t))/\(∀ v,ρ (.const v)=v)/\∀ f,ρ (.func f)=.func (.func f) #[] #[]
theorem EnvR.ev {M:Nat->Prop}{N:Nat->Prop}{ρ:Operand->Value}{e:Nat->D}(h:EnvR M σ N w ρ e)(x:Operand):RepV M σ N w (ρ x) (fG e x):=by
 cases x with
 | tmp t=>exact h.1 t
 | const v=>rw [h.2.1];exact IM v
 | func f=>rw [h.2.2];exact .fn f [] [] rfl (λj u d hu=>by simp at hu)
 | global g=>exact .junk _
theorem EnvR.aa {M:Nat->Prop}{N:Nat->Prop}{ρ:Operand->Value}{e:Nat->D}(h:EnvR M σ N w ρ e)(a:List (Nat × Operand)) :
  Parts M σ N w (a.map λp=>(p.1,ρ p.2)) (a.map λp=>(p.1,fG e p.2)):=by
 refine ⟨by simp [Function.comp_def],λj v d hv hd=>?_⟩;simp only [List.map_map,aP,bN] at hv hd;obtain ⟨p,c,rfl⟩:=hv;obtain ⟨q,b,rfl⟩:=hd;rw [c] at b;cases b
 exact h.ev p.2
theorem TN (m:Rel M0 H σ w)(a:Nat):Rel M0 (H.a7 a) σ w/\Keeps (dD M0 H σ) σ H.H w (dD M0 (H.a7 a) σ) σ (H.a7 a).H w/\(H.a7 a).H=H.H /\
  ∀ i,((H.a7 a).get i).map (·.T)=(H.get i).map (·.T)/\(∀ k,H.get i=some k->k.fz=true\/i=a->∃ k',(H.a7 a).get i=some k'/\k'.fz=true/\k'.T=k.T):=by
 unfold AHeap.a7;cases r:H.get a with
 | none =>
  refine ⟨m,.refl _ _ _ _,rfl,λi=>⟨rfl,λk hik h=>?_⟩⟩;grind
 | some k =>
  simp only;have c:∀ i,((H.put a { k with fz:=true }).get i).map (·.T)=(H.get i).map (·.T)/\(∀ k0,H.get i=some k0->k0.fz=true\/i=a->∃ k',(H.put a { k with fz:=true }).get i=some k'/\k'.fz=true/\k'.T=k0.T):=by
   intro i;by_cases s:i=a
   .subst s;refine ⟨by simp [AHeap.put,r],λk0 h0 _=>⟨{ k with fz:=true },by simp [AHeap.put],rfl,?_⟩⟩;grind
   .refine ⟨by simp [AHeap.put,s],λk0 h0 h=>?_⟩;rcases h with h|h
    .exact ⟨k0,by simp [AHeap.put,s,h0],h,rfl⟩
    grind
  by_cases v:k.fz=false
  .obtain ⟨o,u,l⟩:=m.ak a k r;obtain ⟨x,d,z,e⟩:=l.row;have p:=Rel.put m (w':=w) r v u { k with fz:=true } o ⟨rfl,rfl,rfl,bD _,λ_ _ _=>rfl⟩ (λb hb=>.inl hb) (.inl rfl) l.ai l.ty l.Z l.J x d z e;simp only [HL o a u] at p;exact ⟨p.1,p.2.2,rfl,c⟩
  .have y:H.put a { k with fz:=true } = H:=by
    have f:k.fz=true:=by simpa using v
    have q:({ k with fz:=true }:Blk)=k:=by cases k;simp at f;subst f;rfl
    obtain ⟨n,A,g⟩:=H;simp only [AHeap.put,q,AHeap.mk.injEq,true_and];grind
   rw [y] at c ⊢;exact ⟨m,.refl _ _ _ _,rfl,c⟩
theorem fW (a:List Nat):∀ {H:AHeap},Rel M0 H σ w->Rel M0 (fJ a H) σ w/\Keeps (dD M0 H σ) σ H.H w (dD M0 (fJ a H) σ) σ (fJ a H).H w/\(fJ a H).H=H.H /\
  ∀ i,((fJ a H).get i).map (·.T)=(H.get i).map (·.T)/\(∀ k,H.get i=some k->k.fz=true\/i∈a->∃ k',(fJ a H).get i=some k'/\k'.fz=true/\k'.T=k.T):=by
 induction a with
 | nil=>intro H o;exact ⟨o,.refl _ _ _ _,rfl,λi=>⟨rfl,λk e h=>⟨k,e,by simpa using h,rfl⟩⟩⟩
 | cons id a ih =>
  intro H o;obtain ⟨v,u,t,l⟩:=TN o id;obtain ⟨z,y,x,m⟩:=ih v;refine ⟨z,u.trans y,x.trans t,λi=>⟨(m i).1.trans (l i).1,λk e h=>?_⟩⟩;rcases h with h|h
  .obtain ⟨c,r,q,p⟩:=(l i).2 k e (.inl h);obtain ⟨b,j,g,f⟩:=(m i).2 c r (.inl q);exact ⟨b,j,g,f.trans p⟩
  .rcases aS.1 h with rfl|h
   .obtain ⟨c,r,q,p⟩:=(l i).2 k e (.inr rfl);obtain ⟨b,j,g,f⟩:=(m i).2 c r (.inl q);exact ⟨b,j,g,f.trans p⟩
   .have n:=(l i).1;rw [e] at n;cases d:(H.a7 id).get i with
    | none=>rw [d] at n;cases n
    | some c =>
     obtain ⟨b,j,g,f⟩:=(m i).2 c d (.inr h);refine ⟨b,j,g,f.trans ?_⟩;simp_all
theorem Iu {v:Value}{e n:Nat}{k:Blk}(x:Rel M0 H σ w)(C:RepV (dD M0 H σ) σ H.H w v (.own e n))(F:H.get e=some k)(N:k.fz=true)(L:k.T.length=n) :
  RepV (dD M0 H σ) σ H.H w v (.list k.T):=by
 obtain ⟨o,q,l⟩:=x.ak e k F;obtain ⟨A,b,m,c⟩:=l.row;cases C
 rename_i Q O h;rcases h o q with R|⟨P,rfl⟩
 .have:=l.ai;omega
 .rcases b.2 with ⟨f,I⟩|⟨g,y,J,a,_,_,r,s,_⟩
  .rw [f,bQ I];exact .listN
  .have d:o.block=some g:=by simp [Ow.block,a,Value.ownBlock]
   rw [a];refine .list ⟨g,0,none⟩ y o.J A k.T r s l.J c.len m (λj u hu=>⟨?_,b.cells (g:=g) (by simpa [Ow.block] using d) j u hu⟩) c.ad;rintro (D|⟨i,K,B,E,G,p,t⟩)
   .exact (x.lt e o g q d).2 D
   .have M:=x.inj i e B o g p q t d;grind
theorem OZ {M:Nat->Prop}{N:Nat->Prop}{ad:Addr}{g sz:Nat}{es:Xa1}{a b:Nat}(h:RepV M σ N w (.slice (some ad) es.length g) (.list es))(k:∀ c∈es,c.length=sz)(A:a<=b)(K:b<=es.length) :
  RepV M σ N w (.slice (some (if g=a then ad else ad.add (a * sz))) (b - a) (g - a)) (.list ((es.take b).drop a)):=by
 rcases uK h with ⟨F,_⟩|⟨G,v,z,y,E,i,o,l,B,J,s⟩
 .cases F
 .cases E
  have n:((es.take b).drop a).length=b - a:=by simp;omega
  have m:∀ c∈(es.take b).drop a,c.length=sz:=λc hc=>k c (dL (fM hc));have f:((es.take b).drop a).flatten=(es.flatten.take (b * sz)).drop (a * sz):=by
   rw [tG _ a (λc hc=>k c (dL hc)),tF _ b k]
  by_cases q:g=a
  .have r:b=a:=bZ;subst r;have t:(es.take b).drop b=[]:=iT (by simp;omega);have:=RepV.list (M:=M) (σ:=σ) (N:=N) (w:=w) ad (b - b) 0 [] [] eG eG eG rfl eG (λj u e=>by simp at e) (λj u d e=>by simp at e);grind
  .rw [if_neg q];have I:=RepV.list (M:=M) (σ:=σ) (N:=N) (w:=w) (ad.add (a * sz)) (g - a) sz ((y.take (b * sz)).drop (a * sz)) ((es.take b).drop a) (by rw [n];omega) bZ m
    (by rw [f];simp [i.len]) (λu e=>o u (dL (fM e))) (λj u e=>by
     rw [cF,b9] at e;split at e
     .obtain ⟨O,L⟩:=l _ u e;rw [i6,D6];grind
     .cases e) (λj u d e p=>by
     rw [f,cF,b9] at p;rw [cF,b9] at e;split at e
     .rename_i C;rw [if_pos C] at p;exact i.ad _ u d e p
     .cases e)
   grind
theorem Rd {v:Value}{i n f m:Nat}{k:Blk}(x:Rel M0 H σ w)(z:RepV (dD M0 H σ) σ H.H w v (.win i n f m))(t:H.get i=some k)(A:k.fz=true)(s:k.T.length=n) :
  RepV (dD M0 H σ) σ H.H w v (.list ((k.T.take m).drop f)):=by
 obtain ⟨o,D,l⟩:=x.ak i k t;have r:=l.ai;cases z
 rename_i E B j h;have q:VR o v n f m:=by
  grind
 have a:RepV (dD M0 H σ) σ H.H w o.val (.list k.T):=by
  refine Iu (n:=n) x (.own o.val i n B ?_ λo' ho'=>?_) t A s
  .rcases q with ⟨g,_⟩|⟨b,p,g,_⟩<;>rw [g]<;>rfl
  grind
 rcases q with ⟨g,y,C⟩|⟨b,p,g,u,y⟩
 .subst y C;simpa using RepV.listN
 .rw [g,<- s] at a;have:=OZ a (λc u=>l.J c u) j.1 bZ;have e:(Addr.add ⟨b,0,none⟩ (f * o.J))=⟨b,f * o.J,none⟩:=by simp [kB]
  grind
theorem rG {H H':AHeap}(h:∀ i,(H'.get i).map (·.T)=(H.get i).map (·.T))(d:D):fN H' d=fN H d:=by
 cases d<;>try rfl
 .rename_i a n;simp only [fN];grind
 .rename_i a n b c;simp only [fN];grind
theorem nW {v:Value}{d:D}(h:Rel M0 H σ w)(a:RepV (dD M0 H σ) σ H.H w v d)(g:∀ i∈lR d,∀ k,H.get i=some k->k.fz=true) :
  RepV (dD M0 H σ) σ H.H w v (fN H d):=by
 cases d<;>try exact a
 .rename_i c n;simp only [fN];cases e:H.get c with
  | none=>exact a
  | some k =>
   simp only;split
   .rename_i f;exact Iu h a e (g c (by simp [lR]) k e) f
   .exact a
 .rename_i c n j l;simp only [fN];cases e:H.get c with
  | none=>exact a
  | some k =>
   simp only;split
   .rename_i f;exact Rd h a e (g c (by simp [lR]) k e) f
   .exact a
theorem nU {v:Value}{d:D}(t:Rel M0 H σ w)(e:RepV (dD M0 H σ) σ H.H w v d)(a:List Nat)(h:∀ i∈dQ d,i∈a) :
  RepV (dD M0 (fJ a H) σ) σ (fJ a H).H w v (iS H d):=by
 obtain ⟨o,z,A,m⟩:=fW a t;have b:=e.u z;have c:∀ i∈a,∀ k,(fJ a H).get i=some k->k.fz=true:=λi h k hk=>by
  have l:=(m i).1;rw [hk] at l;cases g:H.get i with
  | none=>rw [g] at l;cases l
  | some k0 =>
   grind
 cases d with
 | agg cs =>
  cases b
  rename_i p f s r;refine .agg p _ (eL s) f λj u x hu e=>?_;rw [aP,bN] at e;obtain ⟨y,q,rfl⟩:=e;rw [<- rG (λi=>(m i).1) y];refine nW o (r j u y hu q) λi hii k hk=>c i (h i ?_) k hk;simp only [dQ,cD];grind
 | _ =>
  simp only [iS];rw [<- rG (λi=>(m i).1)];exact nW o b λi hii k hk=>c i (h i hii) k hk
theorem RA {md:Nat->Bool}{v:Value}{d:D}(e:Rel M0 H σ w)(c:RepV (dD M0 H σ) σ H.H w v d)(a:List Nat)(b:∀ i∈M7 md d,i∈a) :
  RepV (dD M0 (fJ a H) σ) σ (fJ a H).H w v (SI md H d):=by
 unfold SI;unfold M7 at b;split
 .exact c.u (fW a e).2.1
 .rename_i h;rw [if_neg h] at b;exact nU e c a b
theorem FL {x:Operand}(h:j7 x=true):x=.const (.slice none 0 0):=by grind [j7]
theorem HV {nid:Nat}(B:¬ H.H nid){md:Nat->Bool}{e:Nat->D}{o:Oper}{ρ:Operand->Value}(z:Rel M0 H σ w)(r:EnvR (dD M0 H σ) σ H.H w ρ e)(h:(GC P nid md e o H).cond) :
  (GC P nid md e o H).ae/\V9 P (execOp ρ o) M0 H σ w (GC P nid md e o H).val (GC P nid md e o H).heap:=by
 obtain ⟨b4,op,E,b3,b1,b0⟩:=o;unfold GC execOp at *;simp only at h ⊢;cases op<;>try (exact h.elim)
 case move x =>
  simp only at h ⊢;by_cases V:j7 x=true
  .rw [if_pos V] at h ⊢;have J:=FL V;subst J;obtain ⟨k,g⟩:=KS (P:=P) B (x:=(Pure.pure (ρ (.const (.slice none 0 0))):Sem Value)) z (by show Result.ok (ρ _) w=_;rw [r.2.1]) h;obtain ⟨v,T,σ',hr,h3⟩:=g;have U:Result.ok (ρ (.const (.slice none 0 0))) w=Result.ok v T:=hr;injection U with e1 e2;subst e1;subst e2;exact ⟨k,_,_,σ',.inl rfl,h3⟩
  .rw [if_neg V] at h ⊢;exact ⟨trivial,ρ x,w,σ,.inl rfl,z,r.ev x,.refl _ _,.refl _ _ _ _⟩
 case assign x =>
  simp only at h ⊢;by_cases V:j7 x=true
  .rw [if_pos V] at h ⊢;have J:=FL V;subst J;obtain ⟨k,g⟩:=KS (P:=P) B (x:=(Pure.pure (ρ (.const (.slice none 0 0))):Sem Value)) z (by show Result.ok (ρ _) w=_;rw [r.2.1]) h;obtain ⟨v,T,σ',hr,h3⟩:=g;have U:Result.ok (ρ (.const (.slice none 0 0))) w=Result.ok v T:=hr;injection U with e1 e2;subst e1;subst e2;exact ⟨k,_,_,σ',.inl rfl,h3⟩
  .rw [if_neg V] at h ⊢;exact ⟨trivial,ρ x,w,σ,.inl rfl,z,r.ev x,.refl _ _,.refl _ _ _ _⟩
 case pick c a b =>
  obtain ⟨k,g⟩:=QP z (r.ev c) (r.ev a) (r.ev b) h;exact ⟨k,by simpa using g.next⟩
 case alloc t =>
  obtain ⟨k,g⟩:=PV (P:=P) B z h;exact ⟨k,g.next⟩
 case box t x =>
  obtain ⟨k,g⟩:=TX (P:=P) B z (r.ev x) h;exact ⟨k,g.next⟩
 case build t ps =>
  obtain ⟨k,g⟩:=PN (P:=P) z (r.aa ps.toList) h;refine ⟨k,?_⟩;have:=g.next;rw [show (List.map (λp=>(p.1,ρ p.2)) ps.toList).toArray=ps.map (λp=>(p.1,ρ p.2)) by rw [<- Array.toList_map]] at this;exact this
 case buildSlice t n ps =>
  obtain ⟨f1,f2,f3,f4⟩:=fW (ps.toList.flatMap λp=>M7 md (fG e p.2)) z;have M:Parts (dD M0 (fJ (ps.toList.flatMap λp=>M7 md (fG e p.2)) H) σ) σ (fJ (ps.toList.flatMap λp=>M7 md (fG e p.2)) H).H w
    (ps.toList.map λp=>(p.1,ρ p.2)) (ps.toList.map λp=>(p.1,SI md H (fG e p.2))):=by
   refine ⟨by simp [Function.comp_def],λj v d S N=>?_⟩;simp only [List.map_map,aP,bN] at S N;obtain ⟨p,hp,rfl⟩:=S;obtain ⟨q,hq,rfl⟩:=N;rw [hp] at hq;cases hq
   exact RA z (r.ev p.2) _ λi W=>cD.2 ⟨p,aM hp,W⟩
  obtain ⟨k,g⟩:=ET (P:=P) (by rw [f3];exact B) f1 M h;refine ⟨k,?_⟩;have:=g.next;rw [show (List.map (λp=>(p.1,ρ p.2)) ps.toList).toArray=ps.map (λp=>(p.1,ρ p.2)) by rw [<- Array.toList_map]] at this;obtain ⟨v,T,σ',a1,a2,a3,a4,a5⟩:=this;exact ⟨v,T,σ',a1,a2,a3,a4,f2.trans a5⟩
 case load t a =>
  obtain ⟨k,g⟩:=QX (P:=P) z (r.ev a) h;exact ⟨k,g.next⟩
 case store t a v =>
  have Z:∀ (G:AHeap) (Q R:D),Rel M0 G σ w->Keeps (dD M0 H σ) σ H.H w (dD M0 G σ) σ G.H w->RepV (dD M0 G σ) σ G.H w (ρ a) Q->RepV (dD M0 G σ) σ G.H w (ρ v) R ->
    (nI P t Q R G).cond->(nI P t Q R G).ae/\V9 P (do Instr.storeAt t (ρ a) (ρ v);Pure.pure Next.skip) M0 H σ w (nI P t Q R G).val (nI P t Q R G).heap:=by
   intro G Q R a8 a9 a6 a7 F;have g:=NM (P:=P) a8 a6 a7 F;have X:(nI P t Q R G).ae/\(nI P t Q R G).val=.junk:=by
    simp only [nI] at F ⊢;split at F
    .split at F
     .split at F
      .exact ⟨trivial,rfl⟩
      .exact F.elim
     .exact F.elim
    .exact F.elim
   refine ⟨X.1,?_⟩;rw [X.2];obtain ⟨v',T,σ',a1,a2,a3,a4,a5⟩:=g.next;exact ⟨v',T,σ',a1,a2,a3,a4,a9.trans a5⟩
  simp only at h ⊢;by_cases hm:md 1000000=true
  .rw [if_pos hm] at h ⊢;obtain ⟨f1,f2,f3,f4⟩:=fW (dQ (fG e v)) z;exact Z _ _ _ f1 f2 ((r.ev a).u f2) (nU z (r.ev v) _ λi W=>W) h
  .rw [if_neg hm] at h ⊢;exact Z H _ _ z (.refl _ _ _ _) (r.ev a) (r.ev v) h
 case nilCheck x =>
  obtain ⟨a,k,g,h3,h4⟩:=HZ z (r.ev x) h;refine ⟨g,ρ x,w,σ,.inl ?_,by rw [h4];exact z,by rw [h4];exact h3,.refl _ _,by rw [h4];exact .refl _ _ _ _⟩;simp [k]
 case binOp op t x y t' =>
  obtain ⟨k,g⟩:=TR (P:=P) (t:=t) (ox:=x) (oy:=y) z (r.ev x) (r.ev y) h;exact ⟨k,g.next⟩
 case unOp op t x =>
  obtain ⟨k,g⟩:=Uk (P:=P) z (r.ev x) h;exact ⟨k,g.next⟩
 case convert s d x =>
  obtain ⟨k,g⟩:=J7 (P:=P) z (r.ev x) h;exact ⟨k,g.next⟩
 case makeFunc fn first caps =>
  cases fn<;>try (exact h.elim)
  rename_i f;simp only at h ⊢;by_cases X:first.isEmpty=true
  .rw [if_pos X];have:first=#[]:=by simpa using X
   subst this;refine ⟨trivial,⟨.func (.func f) #[] (caps.toList.map ρ).toArray,w,σ,.inl (by simp [Instr.makeFunc];rw [<- Array.toList_map]),z,.fn f _ _ eG (λj u d hu N=>?_),.refl _ _,.refl _ _ _ _⟩⟩;simp only [aP,bN] at hu N;obtain ⟨p,hp,rfl⟩:=hu;obtain ⟨q,hq,rfl⟩:=N;rw [hp] at hq;cases hq
   exact r.ev p
  .rw [if_neg X] at h;exact h.elim
 case makeSlice t l c =>
  obtain ⟨k,g⟩:=QW (P:=P) B z (r.ev l) (r.ev c) h;exact ⟨k,g.next⟩
 case slice t x lo W mx =>
  cases mx with
  | some m=>exact h.elim
  | none =>
   obtain ⟨k,g⟩:=NP (P:=P) (vlo:=lo.map ρ) (vhi:=W.map ρ) z (r.ev x) (λv d S N=>by
    cases lo with
    | none=>cases S
    | some o=>cases S;cases N;exact r.ev o) (by cases lo<;>rfl) (λv d S N=>by
    cases W with
    | none=>cases S
    | some o=>cases S;cases N;exact r.ev o) (by cases W<;>rfl) h
   exact ⟨k,g.next⟩
 case fieldAddr t x f =>
  obtain ⟨k,g⟩:=Gs (P:=P) z (r.ev x) h;exact ⟨k,g.next⟩
 case indexAddr t x i =>
  obtain ⟨k,g⟩:=Gq (P:=P) z (r.ev x) (r.ev i) h;exact ⟨k,g.next⟩
 case index t x i =>
  obtain ⟨k,g⟩:=O7 (P:=P) z (r.ev x) (r.ev i) h;exact ⟨k,g.next⟩
 case extract t i =>
  obtain ⟨k,g⟩:=J1 (P:=P) z (r.ev t) h;exact ⟨k,g.next⟩
 case call c =>
  obtain ⟨O,C,ts⟩:=c;cases O<;>try (exact h.elim)
  rename_i b;obtain ⟨C⟩:=C;obtain ⟨ts⟩:=ts;simp only [List.map_toArray,resolve,invoke,V9,Sem.run_bind,Sem.run_pure,Result.andThen_ok] at h ⊢;unfold yF at *;split at h
  .rename_i xd td K;match C,K with
   | [ox],K =>
    cases K
    obtain ⟨k,g⟩:=TD (P:=P) (ty:=E) z (r.ev ox) h;exact ⟨k,by simpa [V9,builtin] using g.next⟩
  .rename_i xd yd td b2 K;match C,K with
   | [ox,oy],K =>
    cases K
    obtain ⟨k,g⟩:=Kb (P:=P) B (ty:=E) z (r.ev ox) (r.ev oy) h;exact ⟨k,by simpa [V9,builtin] using g.next⟩
  .rename_i xd td K;match C,K with
   | [ox],K =>
    cases K
    obtain ⟨k,g⟩:=PK (P:=P) (ty:=E) z (r.ev ox) h;exact ⟨k,by simpa [V9,builtin] using g.next⟩
  .rename_i x y J;match C,J with
   | [ox,oy],J =>
    cases J
    obtain ⟨k,g⟩:=KZ (P:=P) (b:=.min) (mx:=false) (t:=E)  rfl z (r.ev ox) (r.ev oy) h;exact ⟨k,by simpa [V9,builtin] using g.next⟩
  .rename_i x y J;match C,J with
   | [ox,oy],J =>
    cases J
    obtain ⟨k,g⟩:=KZ (P:=P) (b:=.max) (mx:=true) (t:=E)  rfl z (r.ev ox) (r.ev oy) h;exact ⟨k,by simpa [V9,builtin] using g.next⟩
  .exact h.elim
end
end Go.Abs
end
section
namespace Go.Abs
def Wa (P:Program)(f:FuncId):Prop:=∃ fn,P.funcs[f]?=some fn/\(fn.name=="runtime.NumGoroutine")=false/\fn.body.isSome=true
def ACalls (P:Program)(f:FuncId)(args:Xa2)(H:AHeap)(Q:D->AHeap->Prop):Prop :=
 Wa P f/\∀ (M0:Nat->Prop) (σ:Nat->Option Ow) (w:World) (vals:List Value),Rel M0 H σ w->RepL (dD M0 H σ) σ H.H w vals args ->
  Calls P f vals.toArray w λe w'=>∃ v d H' σ',e=.returned v/\Rel M0 H' σ' w'/\RepV (dD M0 H' σ') σ' H'.H w' v d/\Stp σ w σ' w' /\
   Keeps (dD M0 H σ) σ H.H w (dD M0 H' σ') σ' H'.H w'/\Q d H'
theorem ACalls.mono {P:Program}{f:FuncId}{args:Xa2}{H:AHeap}{Q Q':D->AHeap->Prop}(h:ACalls P f args H Q)(hq:∀ d H',Q d H'->Q' d H'):ACalls P f args H Q' :=
 ⟨h.1,λM0 σ w vals hR ha=>(h.2 M0 σ w vals hR ha).mono λ_ _ ⟨v,d,H',σ',a,b,c,s,k,q⟩=>⟨v,d,H',σ',a,b,c,s,k,hq _ _ q⟩⟩
def pE (e:Nat->D)(dst:Option Tmp)(v:D):Nat->D :=
 match dst with
 | some d=>λt=>if t=d then v else e t
 | none=>e
structure St (n:Nat) (M0:Nat->Prop) (H:AHeap) (σ:Nat->Option Ow) (w:World) (e:Nat->D) (a:Act):Prop where
 bl:Rel M0 H σ w
 cR:∀ t,RepV (dD M0 H σ) σ H.H w (a.tmps.getD t undef) (e t)
 defers:a.defers=[]
 size:a.tmps.size=n
section
variable {P:Program} {M0:Nat→Prop} {H:AHeap} {σ:Nat→Option Ow} {w:World} {n:Nat} {e:Nat→D} {a:Act}
theorem St.bs (h:St n M0 H σ w e a):EnvR (dD M0 H σ) σ H.H w a.eval e:=⟨h.cR,λ_=>rfl,λ_=>rfl⟩
def sM (n:Nat):Option Tmp->Bool
 | some d=>decide (d<n)
 | none=>true
theorem St.put {H':AHeap}{σ':Nat->Option Ow}{w':World}(h:St n M0 H σ w e a)(i:Rel M0 H' σ' w')(g:Keeps (dD M0 H σ) σ H.H w (dD M0 H' σ') σ' H'.H w')
  {b:Option Tmp} (l:sM n b=true) {v:Value} {d:D} (j:RepV (dD M0 H' σ') σ' H'.H w' v d):St n M0 H' σ' w' (pE e b d) (a.put b v):=by
 cases b with
 | none=>exact ⟨i,λt=>(h.cR t).u g,h.defers,h.size⟩
 | some q =>
  have k:q<a.tmps.size:=by rw [h.size];simpa [sM] using l
  refine ⟨i,λt=>?_,h.defers,by simpa [Act.put] using h.size⟩;by_cases f:t=q
  .subst f;simpa [pE,Act.put,k] using j
  .have c:¬ q=t:=λe=>f e.symm;have:=(h.cR t).u g;simpa [pE,Act.put,f,c,Array.getElem?_setIfInBounds] using this
theorem E9 {nid:Nat}{md:Nat->Bool}{e g:Nat->D}{o:Oper}(h:∀ x∈o.op.operands,fG e x=fG g x):GC P nid md e o H=GC P nid md g o H:=by
 obtain ⟨K,q,w,B,u,r⟩:=o;have A:∀ (l:List (Nat × Operand)),(∀ p∈l,fG e p.2=fG g p.2)->(l.map λp=>(p.1,fG e p.2))=l.map λp=>(p.1,fG g p.2):=λl m =>
  cE λp hp=>by rw [m p hp]
 unfold GC;cases q<;>simp only [Op.operands] at h ⊢<;>first|rfl|skip
 case move x=>rw [h x eG]
 case assign x=>rw [h x eG]
 case pick c a b=>rw [h c eG,h a eG,h b eG]
 case box t x=>rw [h x eG]
 case build t ps =>
  grind
 case buildSlice t n ps =>
  have m:∀ p∈ps.toList,fG e p.2=fG g p.2:=λp hp=>h p.2 (by simpa using ⟨p.1,by simpa using hp⟩);have I:(ps.toList.map λp=>(p.1,SI md H (fG e p.2)))=ps.toList.map λp=>(p.1,SI md H (fG g p.2)):=cE λp hp=>by rw [m p hp]
  have G:(ps.toList.flatMap λp=>M7 md (fG e p.2))=ps.toList.flatMap λp=>M7 md (fG g p.2):=by
   rw [List.flatMap_def,List.flatMap_def,cE λp hp=>by rw [m p hp]]
  rw [I,G]
 case load t a=>rw [h a eG]
 case store t a v=>rw [h a eG,h v eG]
 case nilCheck x=>rw [h x eG]
 case binOp q t x y t'=>rw [h x eG,h y eG]
 case unOp q t x=>rw [h x eG]
 case convert s d x=>rw [h x eG]
 case makeFunc J first caps =>
  cases J<;>simp only
  have:caps.toList.map (fG e)=caps.toList.map (fG g):=cE λx hx=>h x (by simp;exact .inr (eL hx));rw [this]
 case makeSlice t l c=>rw [h l eG,h c eG]
 case slice t x E F C =>
  cases C<;>simp only
  rw [h x eG];cases E<;>cases F<;>simp only [Option.map_none,eV]
  .rename_i y;rw [h y eG]
  .rename_i y;rw [h y eG]
  .rename_i y z;rw [h y eG,h z eG]
 case fieldAddr t x f=>rw [h x eG]
 case indexAddr t x i=>rw [h x eG,h i eG]
 case index t x i=>rw [h x eG,h i eG]
 case extract t i=>rw [h t eG]
 case call c =>
  obtain ⟨j,k,L⟩:=c;cases j<;>simp only
  have:k.toList.map (fG e)=k.toList.map (fG g):=cE λx hx=>h x (by simpa [Call.operands] using hx);rw [this]
theorem qX {e d:Nat->D}{o:Oper}(h:∀ x∈o.op.operands,fG e x=fG d x):iO e o=iO d o:=by
 obtain ⟨n,l,j,k,i,g⟩:=o;unfold iO;cases l<;>simp only
 rename_i c;obtain ⟨a,b,p⟩:=c;cases a<;>simp only
 rename_i f;have m:fG e f=fG d f:=h f (by simp [Op.operands,Call.operands]);have:b.toList.map (fG e)=b.toList.map (fG d):=cE λx hx=>h x (by simp [Op.operands,Call.operands];exact .inr (eL hx));rw [m,this]
/-! ### guards -/
def gD (ops:Array Oper)(e:Nat->D)(j:Nat):Option (Bool × Bool) :=
 match (ops[j]?).bind (·.dst) with
 | some t=>match e t with
  | .bool c=>some (true,c)
  | .opt g (.bool c)=>some (g,c)
  | _=>none
 | none=>none
def Fh (e:Nat->D):Nat->D:=λt=>match e t with | .opt _ d=>d|d=>d
def gE (e:Nat->D)(op:Op):Nat->D :=
 match op with
 | .pick (.tmp c) _ _=>λt=>if t=c then Fh e t else e t
 | .pick _ _ _=>e
 | _=>Fh e
def gO (op:Op):List Operand :=
 match op with
 | .pick c _ _=>[c]
 | op=>op.operands.toList
theorem Y2 {a:Op}{x:Operand}(h:x∈gO a):x∈a.operands:=by
 cases a<;>simp only [gO] at h<;>first|(simpa using h)|(simp only [bU] at h;subst h;simp [Op.operands])
def og (e:Nat->D):Operand->Bool
 | .tmp t=>match e t with
  | .opt g _=>g
  | _=>true
 | _=>true
def Ua (e:Nat->D):List Operand->Bool
 | []=>true
 | x :: l=>og e x&&Ua e l
theorem Wy {l:List Operand}(h:Ua e l=true):∀ x∈l,og e x=true:=by
 induction l with
 | nil=>simp
 | cons a l ih =>
  simp only [Ua,aL] at h;grind
theorem LS (B:St n M0 H σ w e a){ops:Array Oper}{o:Oper}{j:Nat}{b g c:Bool}(z:o.guard=some (j,b))(h:gD ops e j=some (g,c)) :
  Region.wanted o (yielded ops a.tmps)=(g&&(c==b)):=by
 unfold gD at h;cases l:(ops[j]?).bind (·.dst) with
 | none=>simp [l] at h
 | some t =>
  simp only [l] at h;have m:a.tmps.getD t undef=(a.tmps[t]?).getD undef:=eG;have d:=B.cR t;rw [m] at d;have u:∀ s:Bool,(a.tmps[t]?).getD undef=.bool s->yielded ops a.tmps j=some s:=by
   intro s k;cases i:a.tmps[t]? with
   | none=>rw [i] at k;simp [undef] at k
   | some x=>rw [i] at k;simp at k;subst k;simp [yielded,l,i]
  simp only [Region.wanted,z];split at h
  .rename_i C r;cases h
   rw [r] at d;have k:(a.tmps[t]?).getD undef=.bool c:=by generalize (a.tmps[t]?).getD undef=v at d;cases d;rfl
   grind
  .rename_i D C r;cases h
   rw [r] at d;generalize p:(a.tmps[t]?).getD undef=v at d;cases d
   rename_i A q;cases g with
   | true =>
    have:=q rfl;cases this
    grind
   | false =>
    have y:=A rfl;have:yielded ops a.tmps j=none:=by
     cases i:a.tmps[t]? with
     | none=>simp [yielded,l,i]
     | some x=>rw [i] at p;simp at p;rw [y] at p;subst p;simp [yielded,l,i]
    grind
  .cases h
/-! ### one operation -/
def gH (S:List Nat)(H' H:AHeap):Prop:=∀ i∈S,H'.get i=H.get i
def eK:D->List Nat
 | .own id _=>[id]
 | .win id _ _ _=>[id]
 | .ptr id _ _ _=>[id]
 | .agg cs=>cs.flatMap lR
 | _=>[]
def H8:Op->Bool
 | .alloc _ | .box .. | .buildSlice .. | .makeSlice ..=>true
 | .call { callee:=.builtin .append,.. }=>true
 | .move x | .assign x=>j7 x
 | _=>false
def sJ:Op->Bool
 | .load .. | .store .. | .nilCheck _ | .fieldAddr .. | .indexAddr .. | .slice .. | .alloc _ | .box .. | .buildSlice .. | .makeSlice ..=>true
 | .call _=>true
 | .move x | .assign x=>j7 x
 | _=>false
def foot (nid:Nat)(e:Nat->D)(o:Op):List Nat :=
 (if H8 o then [nid] else [])++(if sJ o then o.operands.toList.flatMap λx=>eK (fG e x) else [])
def AHeap.af (H:AHeap):List (Nat × Blk)->AHeap
 | []=>H
 | p :: l=>AHeap.af (H.push p.1 p.2) l
def AHeap.U (H:AHeap):List (Nat × Blk)->AHeap
 | []=>H
 | p :: l=>AHeap.U (H.put p.1 p.2) l
def qZ (P:Program)(md:Nat->Bool)(dr:Option Nat)(nid:Nat)(ops:Array Oper)(e:Nat->D)(o:Oper)(H:AHeap)(K:D->AHeap->List Nat->Prop):Prop :=
  match o.guard with
  | none=>match iO e o with
    | some (f,args) =>
      match dr with
      | some m=>(∃ r S,(∀ H',gH S H' H->ACalls P f args H' λv H1=>v=r/\H1=H')/\K r H S) \/
          (CJ md o.dst=true/\∃ r S u q,(∀ p∈u,p.1∈S)/\(∀ p∈q,p.1<m/\¬ H.H p.1) /\
            (∀ H',gH S H' H->(∀ p∈q,p.1<H'.next/\¬ H'.H p.1)->ACalls P f args H' λv H1=>v=r/\H1=(H'.U u).af q)/\K r ((H.U u).af q) (S++q.map (·.1)))
      | none=>ACalls P f args H λv H1=>K v H1 []
    | none=>(GC P nid md e o H).cond/\((dr=none->(GC P nid md e o H).ae)->K (GC P nid md e o H).val (GC P nid md e o H).heap (foot nid e o.op))
  | some (j,b)=>match gD ops e j with
    | some (g,c)=>((g&&(c==b))=true->Ua e (gO o.op)=true) /\
      match iO (gE e o.op) o with
      | some (f,args) =>
        match dr with
        | some _=>∃ r S,((g&&(c==b))=true->∀ H',gH S H' H->ACalls P f args H' λv H1=>v=r/\H1=H')/\K (.opt (g&&(c==b)) r) H S
        | none=>(∃ r S,((g&&(c==b))=true->∀ H',gH S H' H->ACalls P f args H' λv H1=>v=r/\H1=H')/\K (.opt (g&&(c==b)) r) H S) \/
          (((g&&(c==b))=true->ACalls P f args H λv H1=>K (.opt true v) H1 [])/\((g&&(c==b))=false->∃ r,K (.opt false r) H []))
      | none=>((g&&(c==b))=true->(GC P nid md (gE e o.op) o H).cond/\(GC P nid md (gE e o.op) o H).heap=H) /\
          ((dr=none->(g&&(c==b))=true->(GC P nid md (gE e o.op) o H).ae)->K (.opt (g&&(c==b)) (GC P nid md (gE e o.op) o H).val) H (foot nid (gE e o.op) o.op))
    | none=>False
theorem CF {o:Oper}{f:FuncId}{args:Xa2}{ρ:Operand->Value}{e:Nat->D}(C:∀ x∈o.op.operands,RepV (dD M0 H σ) σ H.H w (ρ x) (fG e x))(a:iO e o=some (f,args))(T:Wa P f) :
  ∃ vals,(execOp ρ o).run P w=.ok (.enter f vals.toArray) w/\RepL (dD M0 H σ) σ H.H w vals args:=by
 obtain ⟨V,L,z,K,y,t⟩:=o;unfold iO at a;cases L<;>simp only at a<;>try (cases a;done)
 rename_i c;obtain ⟨b,I,W⟩:=c;cases b<;>simp only at a<;>try (cases a;done)
 rename_i E;split at a
 .rename_i g G S;simp at a;obtain ⟨rfl,rfl⟩:=a;have i:=C E (by simp [Op.operands,Call.operands]);rw [S] at i;generalize M:ρ E=v at i;cases i
  rename_i J O N;obtain ⟨F,r,n,U⟩:=T;refine ⟨I.toList.map ρ++J,?_,⟨by simp [O],λj u d hu hd=>?_⟩⟩
  .have s:F.body.isNone=false:=by cases R:F.body<;>simp [R] at U ⊢
   have h:Sem.run P program w=.ok P w:=rfl;simp only [execOp,resolve,M,Deferred.ofValue,invoke,callFunc,Sem.run_bind,Sem.run_pure,Result.andThen_ok,h,r,n,s,fC,if_false];simp_all
  .by_cases Q:j<I.size
   .rw [aR (eL Q)] at hu hd;simp only [aP,bN] at hu hd;obtain ⟨p,B,rfl⟩:=hu;obtain ⟨q,A,rfl⟩:=hd;rw [B] at A;cases A
    exact C p (by simp [Op.operands,Call.operands];exact .inr (by simpa using aM B))
   .rw [aX (by simp;omega)] at hu hd;simp only [bI,fY] at hu hd;exact N _ u d hu hd
 .cases a
def StepC (P:Program)(ops:Array Oper)(Q:Exit->Act->World->Prop)(o:Oper)(Kc:Act->World->Prop)(a:Act)(w:World):Prop :=
 if Region.wanted o (yielded ops a.tmps) then o.wp P a w Kc Q\/(o.asks P a w/\LetsOut Q) else Kc (a.put o.dst undef) w
theorem B9 {o:Oper}{f:FuncId}{args:Xa2}{vals:List Value}{c:Act->World->Prop}{Q:Exit->Act->World->Prop}(b:(execOp a.eval o).run P w=.ok (.enter f vals.toArray) w)
  (h:Calls P f vals.toArray w λe w'=>∃ v,e=.returned v/\c (a.put o.dst v) w'):o.wp P a w c Q:=by
 unfold Oper.wp;rw [b,Oper.upon_enter];exact h.mono λe w' ⟨v,g,d⟩=>by subst g;exact d
theorem A8 {md:Nat->Bool}{dr:Option Nat}{nid:Nat}{ops:Array Oper}{o:Oper}{K:D->AHeap->List Nat->Prop}{Q:Exit->Act->World->Prop}
  (h:qZ P md dr nid ops e o H K) (s:St n M0 H σ w e a) (hn:¬ H.H nid) (V:sM n o.dst=true) (hm:∀ m,dr=some m->m<=H.next:=by intro _ h;cases h) :
  StepC P ops Q o (λa' w'=>∃ v H' F σ',K v H' F/\St n M0 H' σ' w' (pE e o.dst v) a'/\Stp σ w σ' w'/\Keeps (dD M0 H σ) σ H.H w (dD M0 H' σ') σ' H'.H w') a w:=by
 unfold qZ at h;unfold StepC;cases hg:o.guard with
 | none =>
  simp only [hg] at h;have hw:Region.wanted o (yielded ops a.tmps)=true:=by simp [Region.wanted,hg]
  rw [if_pos hw]
  left
  cases I:iO e o with
  | none =>
   simp only [I] at h;obtain ⟨k,v,w',σ',i,N,Y,h5,J⟩:=HV (P:=P) hn s.bl s.bs h.1;unfold Oper.wp;rcases i with i|⟨i,rfl⟩
   .rw [i,Oper.upon_value];exact ⟨_,_,_,σ',h.2 (λ_=>k),s.put N J V Y,h5,J⟩
   .rw [i,Oper.upon_skip];exact ⟨_,_,_,σ',h.2 (λ_=>k),s.put N J V Y,h5,J⟩
  | some fa =>
   obtain ⟨f,args⟩:=fa;simp only [I] at h;have C:∀ Q':D->AHeap->Prop,ACalls P f args H Q'->(∀ v H',Q' v H'->∃ F,K v H' F) ->
     o.wp P a w (λa' w'=>∃ v H' F σ',K v H' F/\St n M0 H' σ' w' (pE e o.dst v) a'/\Stp σ w σ' w'/\Keeps (dD M0 H σ) σ H.H w (dD M0 H' σ') σ' H'.H w') Q:=by
    intro Q' hA hQ;obtain ⟨y,z,A⟩:=CF (P:=P) (λx _=>s.bs.ev x) I hA.1;refine B9 (args:=args) z ((hA.2 M0 σ w y s.bl A).mono λe' w' ⟨v,d,H',σ',he,X,hv,T,M,hq⟩=>?_);obtain ⟨F,hF⟩:=hQ _ _ hq;exact ⟨v,he,d,H',F,σ',hF,s.put X M V hv,T,M⟩
   cases dr with
   | none=>exact C _ h λv H' M=>⟨[],M⟩
   | some m =>
    rcases h with ⟨r,S,k,i⟩|⟨_,r,S,u,q,hu,hq,k,i⟩
    .exact C _ (k H λ_ _=>rfl) λv H' ⟨e1,G⟩=>⟨S,by rw [e1,G];exact i⟩
    .exact C _ (k H (λ_ _=>rfl) λp hp=>⟨b4 (hq p hp).1 (hm m rfl),(hq p hp).2⟩) λv H' ⟨e1,G⟩=>⟨S++q.map (·.1),by rw [e1,G];exact i⟩
 | some jb =>
  obtain ⟨j,b⟩:=jb;simp only [hg] at h;cases U:gD ops e j with
  | none=>simp [U] at h
  | some gc =>
   obtain ⟨g,c⟩:=gc;simp only [U] at h;have hw:=LS (n:=n) s hg U;rw [hw];generalize hq:(g&&(c==b))=q at h;obtain ⟨a2,h⟩:=h;cases q with
   | false =>
    simp only [fC,if_false];have O:∀ d,St n M0 H σ w (pE e o.dst (.opt false d)) (a.put o.dst undef):=λd =>
     s.put s.bl (.refl _ _ _ _) V (.opt _ _ _ (λ_=>rfl) (λh=>by cases h))
    cases I:iO (gE e o.op) o with
    | none =>
     simp only [I] at h;exact ⟨_,H,_,σ,h.2 (λ_ h=>by cases h),O _,.refl _ _,.refl _ _ _ _⟩
    | some fa =>
     obtain ⟨f,args⟩:=fa;simp only [I] at h;have h':∃ r S,K (.opt false r) H S:=by
      cases dr with
      | some _=>obtain ⟨r,S,k,i⟩:=h;exact ⟨r,S,i⟩
      | none =>
       rcases h with ⟨r,S,k,i⟩|⟨k,i⟩
       .exact ⟨r,S,i⟩
       .obtain ⟨r,i⟩:=i trivial;exact ⟨r,[],i⟩
     obtain ⟨r,S,i⟩:=h';exact ⟨_,H,S,σ,i,O _,.refl _ _,.refl _ _ _ _⟩
   | true =>
    simp only [if_true]
    left
    have R:=Wy (a2 rfl);have a1:∀ t,og e (.tmp t)=true->RepV (dD M0 H σ) σ H.H w (a.eval (.tmp t)) (Fh e t):=by
     intro t i;have k:=s.bs.ev (.tmp t);simp only [fG] at k;simp only [og] at i;simp only [Fh];split
     .rename_i g' d' a3;rw [a3] at k i;generalize a.eval (.tmp t)=v at k;cases k
      rename_i _ k;exact k i
     .exact k
    have hE:∀ x∈o.op.operands,RepV (dD M0 H σ) σ H.H w (a.eval x) (fG (gE e o.op) x):=by
     intro x hx;have h0:=s.bs.ev x;cases x with
     | tmp t =>
      simp only [fG] at h0 ⊢;by_cases a0:∃ c' x' y',o.op=.pick c' x' y'
      .obtain ⟨c',x',y',L⟩:=a0;rw [L];have a5:=R c' (by simp [gO,L]);cases c' with
       | tmp c' =>
        simp only [gE];split
        .rename_i a4;subst a4;exact a1 _ a5
        .exact h0
       | _=>exact h0
      .have N:gE e o.op=Fh e/\gO o.op=o.op.operands.toList:=by
        cases L:o.op<;>first|exact ⟨rfl,rfl⟩|exact absurd ⟨_,_,_,L⟩ a0
       rw [N.1];exact a1 t (R _ (by rw [N.2];simpa using hx))
     | _=>exact h0
    classical
    let G:Nat->D:=λt=>if (Operand.tmp t)∈o.op.operands then gE e o.op t else .junk
    have W:∀ x∈o.op.operands,fG (gE e o.op) x=fG G x:=by
     intro x hx;cases x with
     | tmp t=>simp [fG,G,hx]
     | _=>rfl
    have a6:EnvR (dD M0 H σ) σ H.H w a.eval G:=by
     refine ⟨λt=>?_,λ_=>rfl,λ_=>rfl⟩;by_cases ht:(Operand.tmp t)∈o.op.operands
     .have:=hE _ ht;simp only [G,if_pos ht];exact this
     .simp only [G,if_neg ht];exact .junk _
    cases I:iO (gE e o.op) o with
    | none =>
     simp only [I] at h;obtain ⟨k,i⟩:=h;obtain ⟨E,B⟩:=k trivial;rw [E9 W] at E B i;obtain ⟨k,v,w',σ',Z,N,Y,h5,J⟩:=HV (P:=P) hn s.bl a6 E;rw [B] at N Y J;unfold Oper.wp;rcases Z with Z|⟨Z,rfl⟩
     .rw [Z,Oper.upon_value];exact ⟨_,_,_,σ',i λ_ _=>k,s.put N J V (.opt _ _ _ (λh=>by cases h) λ_=>Y),h5,J⟩
     .rw [Z,Oper.upon_skip];exact ⟨_,_,_,σ',i λ_ _=>k,s.put N J V (.opt _ _ _ (λh=>by cases h) λ_=>Y),h5,J⟩
    | some fa =>
     obtain ⟨f,args⟩:=fa;simp only [I] at h;have h':ACalls P f args H λv H1=>∃ S,K (.opt true v) H1 S:=by
      have hl:(∃ r S,((true:Bool)=true->∀ H',gH S H' H->ACalls P f args H' λv H1=>v=r/\H1=H')/\K (.opt true r) H S)->ACalls P f args H λv H1=>∃ S,K (.opt true v) H1 S:=by
       rintro ⟨r,S,k,i⟩;exact (k rfl H λ_ _=>rfl).mono λv H1 ⟨e1,G⟩=>⟨S,by rw [e1,G];exact i⟩
      cases dr with
      | some _=>exact hl (eL h)
      | none =>
       rcases h with h|⟨k,i⟩
       .exact hl (eL h)
       .exact ACalls.mono (eL k) λv H1 M=>⟨[],M⟩
     obtain ⟨y,z,A⟩:=CF (P:=P) hE I h'.1;refine B9 (args:=args) z ((h'.2 M0 σ w y s.bl A).mono λe' w' ⟨v,d,H',σ',he,X,hv,T,M,S,i⟩=>?_);exact ⟨v,he,_,_,S,σ',i,s.put X M V (.opt _ _ _ (λh=>by cases h) λ_=>hv),T,M⟩
end
end Go.Abs
end
section
namespace Go.Abs
def BH (sp:List (Nat × Nat))(i:Nat)(F:List Nat)(acc:List (Nat × List Nat)):Prop :=
 match sp with
 | []=>True
 | _=>∀ p∈acc,(p.1,i)∈sp->∀ x∈p.2,x∉F
def j5 (P:Program)(md:Nat->Bool)(ops:Array Oper)(sp:List (Nat × Nat))(n0:Nat):Nat->List Oper->List (Nat × List Nat)->(Nat->D)->AHeap->((Nat->D)->AHeap->Prop)->Prop
 | _,[],_,e,H,K=>K e H
 | i,o :: rest,acc,e,H,K=>qZ P md (some n0) (n0+i) ops e o H λv H' F=>BH sp i F acc/\j5 P md ops sp n0 (i+1) rest ((i,F) :: acc) (pE e o.dst v) H' K
/-! ### which operations come ahead of which -/
def PR:List Oper->List Nat->List Nat
 | [],acc=>acc
 | o :: rest,acc=>PR rest (acc++[o.after.toList.foldl (λs e=>if Region.binds .any e then s ||| 2 ^ e.on ||| acc.getD e.on 0 else s) 0])
def yI:Op->Bool
 | .store .. | .alloc _ | .box .. | .buildSlice .. | .makeSlice ..=>true
 | .call { callee:=.builtin .append,.. } | .call { callee:=.builtin .clear,.. }=>true
 | .move x | .assign x=>j7 x
 | _=>false
def GJ (md:Nat->Bool)(o:Oper):Bool:=match o.op with
 | .call { callee:=.value _,.. }=>CJ md o.dst
 | _=>false
def oG (md:Nat->Bool)(o:Oper):Bool:=yI o.op||GJ md o
def M6 (ops:Array Oper)(x y:Oper):Bool:=!(x.apart ops y)
def IV (md:Nat->Bool)(x y:Oper):Bool:=sJ x.op&&sJ y.op&&(oG md x||oG md y)
def yM (md:Nat->Bool)(ops:Array Oper)(sp:List (Nat × Nat)):Bool :=
  let b:=PR ops.toList []
  (List.range ops.size).all λj=>match ops[j]? with
    | none=>true
    | some y=>(y.after.toList.all λe=>!Region.binds .any e||decide (e.on<j)) &&
      (match y.guard with|none=>true|some (g,_)=>decide (g<ops.size)) &&
      (List.range j).all λi=>match ops[i]? with
        | none=>true
        | some x=>(b.getD j 0).testBit i||(!M6 ops x y&&(!IV md x y||sp.contains (i,j)))
def No (ops:Array Oper)(S:Nat->Bool):Prop:=∀ j o,ops[j]?=some o->S j=true->∀ e∈o.after.toList,Region.binds .any e=true->S e.on=true
theorem Lj (S:Nat->Bool)(acc:List Nat)(hacc:∀ k i,S k=true->(acc.getD k 0).testBit i=true->S i=true) :
  ∀ (es:List Edge) (s:Nat),(∀ e∈es,Region.binds .any e=true->S e.on=true)->(∀ i,s.testBit i=true->S i=true) ->
   ∀ i,(es.foldl (λs e=>if Region.binds .any e then s ||| 2 ^ e.on ||| acc.getD e.on 0 else s) s).testBit i=true->S i=true
 | [],s,_,hs,i,h=>hs i h
 | e :: es,s,he,hs,i,h=>by
  simp only [wW] at h;refine Lj S acc hacc es _ (λe' h'=>he e' (by simp [h'])) (λi hi=>?_) i h;split at hi
  .rename_i hb;have hSe:=he e eG hb;rw [Nat.testBit_or,Nat.testBit_or,c5,c5] at hi;rcases hi with (hi|hi)|hi
   .exact hs i hi
   .rw [Nat.testBit_two_pow] at hi;have:e.on=i:=by simpa using hi
    rw [<- this];exact hSe
   .exact hacc e.on i hSe hi
  .exact hs i hi
theorem LE {ops:Array Oper}{S:Nat->Bool}(r:No ops S):∀ j i,S j=true->((PR ops.toList []).getD j 0).testBit i=true->S i=true:=by
 have f:∀ (l:List Oper) (a:List Nat),(∀ (k:Nat),(ops.toList.drop a.length)[k]?=l[k]?)->(∀ k i,S k=true->(a.getD k 0).testBit i=true->S i=true) ->
   ∀ j i,S j=true->((PR l a).getD j 0).testBit i=true->S i=true:=by
  intro l;induction l with
  | nil=>intro a _ b j i d c;exact b j i d c
  | cons o l ih =>
   intro a p b j i d c;refine ih _ (λk=>?_) (λk i hk hi=>?_) j i d c
   .have:=p (k+1);simp only [cF,p6,aQ,e9,oX] at this ⊢;grind
   .rw [List.getD_eq_getElem?_getD] at hi;by_cases m:k<a.length
    .rw [aR m,<- List.getD_eq_getElem?_getD] at hi;grind
    .by_cases n:k=a.length
     .subst n;rw [aX (bD _),Aa] at hi;have q:=p 0;have g:ops[a.length]?=some o:=by simpa using q
      exact Lj S a b o.after.toList 0 (λe he c=>r _ o g hk e he c) (λi h=>by simp at h) i hi
     .rw [aX bZ,b5 (by simp;omega)] at hi;simp at hi
 exact λj i d c=>f ops.toList [] (λk=>by simp) (λk i hk hi=>by simp at hi) j i d c
def iH (p:Nat->Bool):Nat->Option Nat
 | 0=>none
 | n+1=>if p n then some n else iH p n
theorem lI {p q:Nat->Bool}:∀ (n:Nat),(∀ k,k<n->p k=q k)->iH p n=iH q n
 | 0,_=>rfl
 | n+1,h=>by simp only [iH,h n bZ,lI n (λk hk=>h k bZ)]
theorem Co {p:Nat->Bool}(m:Nat):∀ (n:Nat),m<=n->(∀ k,m<=k->k<n->p k=false)->iH p n=iH p m
 | 0,h,_=>by rw [Nat.le_zero.1 h]
 | n+1,h,hp=>by
  by_cases hm:m=n+1
  .rw [hm]
  .simp only [iH,hp n bZ bZ,fC,if_false];exact Co m n bZ λk h1 h2=>hp k h1 bZ
end Go.Abs
end

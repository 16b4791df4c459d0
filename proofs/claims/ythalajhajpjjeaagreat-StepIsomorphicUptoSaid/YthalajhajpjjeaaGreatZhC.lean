/- The abstraction layer, part J: slices of slices and strings; -/
import Derived.Test.YthalajhajpjjeaaGreatZhB
set_option linter.unusedVariables false
set_option linter.unusedSimpArgs false
section
namespace Go.Abs
section
variable {P:Program} {M0:Nat→Prop} {H:AHeap} {σ:Nat→Option Ow} {w:World}
theorem qZ {n:Nat}:∀ (es:List (List D)) (i:Nat),(∀ c∈es,c.length=n)->(es.take i).flatten=es.flatten.take (i * n)
 | [],i,_=>by simp
 | e :: es,0,_=>by simp
 | e :: es,i+1,hl=>by
  have he:=hl e aF
  simp only [sI,d9,qZ es i (λc hc=>hl c (by simp [hc])),Ak,Nat.add_mul,he]
  rw [aY (by omega:e.length<=i * n+1 * n)]
  congr 2;omega
theorem q6 {n:Nat}:∀ (es:List (List D)) (i:Nat),(∀ c∈es,c.length=n)->(es.drop i).flatten=es.flatten.drop (i * n)
 | [],i,_=>by simp
 | e :: es,0,_=>by simp
 | e :: es,i+1,hl=>by
  have he:=hl e aF
  simp only [List.drop_succ_cons,d9,q6 es i (λc hc=>hl c (by simp [hc])),List.drop_append,Nat.add_mul,he]
  rw [gH (by omega:e.length<=i * n+1 * n)]
  simp only [fR]
  congr 1;omega
theorem zH {M:Nat->Prop}{N:Nat->Prop}{b:Option Value}{c:Option D}{a n:Int}(h:∀ v x,b=some v->c=some x->RepV M σ N w v x)(e:b.isSome=c.isSome)(d:TZ c a=some n) :
  (b=none/\n=a)\/∃ k,b=some (.int k n):=by
 cases c with
 | none=>cases b with
  | none=>simp [TZ] at d;exact .inl ⟨rfl,d.symm⟩
  | some v=>simp at e
 | some x=>cases b with
  | none=>simp at e
  | some v =>
   have:=h v x rfl rfl
   cases x<;>simp [TZ] at d
   cases this
   grind
theorem zJ {e:TypeId}{t:TypeId}(n:P.underlying t=some (.slice e)){v:TypeInfo}(f:P.info? e=some v)(a:Option Addr)(len d:Nat)(z:len<=d)(p u:Option Value)(l h:Int)
  (A:(p=none/\l=0)\/∃ k,p=some (.int k l)) (B:(u=none/\h=len)\/∃ k,u=some (.int k h)) (y:0<=l) (C:l<=h) (F:h<=len) :
  (Instr.sliceAt t (.slice a len d) p u none).run P w=.ok (.slice (if d=l.toNat then a else a.map (·.add (l.toNat * v.size))) (h.toNat - l.toNat) (d - l.toNat)) w:=by
 have g:h<=(d:Int):=aD
 have o:∀ (x:Nat) (k:IntKind) (i:Int) (j:BoundsCode),0<=i->i<=(x:Int)->(Instr.sliceBound (.int k i) x j).run P w=.ok i.toNat w:=by
  intro x k i j s r
  simp [Instr.sliceBound,asIntOf,s,r]
 rcases A with ⟨rfl,rfl⟩|⟨D,rfl⟩<;>rcases B with ⟨rfl,rfl⟩|⟨E,rfl⟩
 .simp [Instr.sliceAt,Instr.slice,run_underlying n,Instr.sliceBounds,sizeOf,typeInfo,f]
 .simp [Instr.sliceAt,Instr.slice,run_underlying n,Instr.sliceBounds,sizeOf,typeInfo,f,o _ _ _ _ (by omega:(0:Int)<=h) g]
 .simp [Instr.sliceAt,Instr.slice,run_underlying n,Instr.sliceBounds,sizeOf,typeInfo,f,o len _ _ _ y C]
 .have q:l<=(h.toNat:Int):=aD
  simp [Instr.sliceAt,Instr.slice,run_underlying n,Instr.sliceBounds,sizeOf,typeInfo,f,o _ _ _ _ (by omega:(0:Int)<=h) g,o _ _ _ _ y q]
theorem HI {t:TypeId}(c:P.underlying t=some .string)(s:ByteArray)(e m:Option Value)(l h:Int)
  (p:(e=none/\l=0)\/∃ k,e=some (.int k l)) (q:(m=none/\h=s.size)\/∃ k,m=some (.int k h)) (o:0<=l) (r:l<=h) (n:h<=s.size) :
  (Instr.sliceAt t (.string s) e m none).run P w=.ok (.string (s.extract l.toNat h.toNat)) w:=by
 have d:∀ (x:Nat) (k:IntKind) (i:Int) (a:BoundsCode),0<=i->i<=(x:Int)->(Instr.sliceBound (.int k i) x a).run P w=.ok i.toNat w:=by
  intro x k i a j g
  simp [Instr.sliceBound,asIntOf,j,g]
 rcases p with ⟨rfl,rfl⟩|⟨u,rfl⟩<;>rcases q with ⟨rfl,rfl⟩|⟨v,rfl⟩
 .simp [Instr.sliceAt,Instr.slice,run_underlying c,Instr.sliceBounds]
 .simp [Instr.sliceAt,Instr.slice,run_underlying c,Instr.sliceBounds,d _ _ _ _ (by omega:(0:Int)<=h) n]
 .simp [Instr.sliceAt,Instr.slice,run_underlying c,Instr.sliceBounds,d s.size _ _ _ o r]
 .have f:l<=(h.toNat:Int):=aD
  simp [Instr.sliceAt,Instr.slice,run_underlying c,Instr.sliceBounds,d _ _ _ _ (by omega:(0:Int)<=h) n,d _ _ _ _ o f]
theorem LG {t:TypeId}{vx:Value}{x:D}{vlo vhi:Option Value}{X Y:Option D}(Z:Rel M0 H σ w)(hx:RepV (cX M0 H σ) σ H.al w vx x)
  (U:∀ v x,vlo=some v->X=some x->RepV (cX M0 H σ) σ H.al w v x) (E:vlo.isSome=X.isSome)
  (V:∀ v x,vhi=some v->Y=some x->RepV (cX M0 H σ) σ H.al w v x) (G:vhi.isSome=Y.isSome) (p:(pC P t x X Y H).cond) :
  (pC P t x X Y H).fact/\OpS P (Instr.sliceAt t vx vlo vhi none) M0 H σ w (pC P t x X Y H).val (pC P t x X Y H).heap:=by
 unfold pC at *
 split at p
 .rename_i es
  split at p
  .rename_i s l h hs hl hh
   obtain ⟨J,L,h2,h3⟩:=p
   obtain ⟨i,ti,z,B,hz,F,_,b4,_,_,b1,_⟩:=qU hs
   have T:=zH U E hl
   have O:=zH V G hh
   obtain ⟨a,rfl⟩:=eB J
   obtain ⟨b,rfl⟩:=eB (Int.le_trans J L)
   simp only [Int.toNat_natCast]
   have b8:a<=b:=aD
   have K:b<=es.length:=aD
   refine ⟨trivial,?_⟩
   rcases rT hx with ⟨rfl,rfl⟩|⟨ad,y,sz,xs,rfl,R,a5,W,a8,hm,q⟩
   .have f:=zJ (P:=P) (w:=w) i B none 0 0 (bC _) vlo vhi a b T O J L (bS h2)
    simp at K
    subst K
    have:a=0:=aD
    subst this
    refine .pure Z f ?_
    simpa using RepV.listN
   .have f:=zJ (P:=P) (w:=w) i B (some ad) es.length y a8 vlo vhi a b T O J L h2
    simp only [Int.toNat_natCast,c6] at f
    have S:((es.take b).drop a).length=b - a:=by simp;omega
    have a0:es≠[]->sz=s.sz:=λhne=>by
     cases es with
     | nil=>exact absurd rfl hne
     | cons e es=>simp at h3;exact (q e aF).symm.trans h3
    rw [F] at f
    refine .pure Z f ?_
    have a2:∀ c∈(es.take b).drop a,c.length=sz:=λc p=>q c (cK (eR p))
    have I:((es.take b).drop a).flatten=(es.flatten.take (b * sz)).drop (a * sz):=by
     rw [q6 _ a (λc p=>q c (cK p)),qZ _ b q]
    by_cases a4:y=a
    .have b0:b=a:=aD
     subst b0
     simp only [a4,if_true]
     have r:(es.take b).drop b=[]:=gH (by simp;omega)
     rw [r]
     have:=RepV.list (M:=cX M0 H σ) (σ:=σ) (N:=H.al) (w:=w) ad (b - b) 0 [] [] aF aF aF rfl aF (λj u i=>by simp at i) (λj u d i=>by simp at i)
     simpa using this
    .rw [if_neg a4]
     have hv:=RepV.list (M:=cX M0 H σ) (σ:=σ) (N:=H.al) (w:=w) (ad.add (a * s.sz)) (y - a) sz ((xs.take (b * sz)).drop (a * sz)) ((es.take b).drop a) (by rw [S];omega) aD a2
      (by rw [I];simp [R.len]) (λu i=>a5 u (cK (eR i))) (λj u i=>by
       rw [bZ,bU] at i
       split at i
       .obtain ⟨h5,h6⟩:=W _ u i
        rw [gX,CC]
        refine ⟨h5,?_⟩
        rw [<- a0 (λe=>by subst e;simp at K;subst K;simp at *)]
        exact h6
       .cases i) (λj u d i hd=>by
       rw [I,bZ,bU] at hd
       rw [bZ,bU] at i
       split at i
       .rename_i hj;rw [if_pos hj] at hd;exact R.rep _ u d i hd
       .cases i)
     rw [S] at hv
     exact hv
  .exact p.elim
 .rename_i id m
  split at p
  .rename_i s k l h hs hk hl hh
   obtain ⟨⟨J,L,h2⟩,a3,a9⟩:=p
   obtain ⟨i,ti,z,B,hz,F,_⟩:=qU hs
   have T:=zH U E hl
   have O:=zH V G hh
   obtain ⟨a,rfl⟩:=eB J
   obtain ⟨b,rfl⟩:=eB (Int.le_trans J L)
   simp only [Int.toNat_natCast]
   obtain ⟨o,ho,lz⟩:=Z.lies id k hk
   obtain ⟨xs,a1,_,_⟩:=lz.row
   cases hx
   rename_i b2 hN h
   refine ⟨trivial,?_⟩
   rcases h o ho with h'|⟨c0,rfl⟩
   .have:=lz.ver;omega
   .have C:∀ o',σ id=some o'->o'=o:=λo' ho'=>by rw [ho] at ho';exact (Option.some.inj ho').symm
    rcases a1.2 with ⟨r,b3⟩|⟨g,y,c1,Q,b7,hg,a7,b6,b5,a6⟩
    .have f:=zJ (P:=P) (w:=w) i B none 0 0 (bC _) vlo vhi a b T (by rw [(aD:m=0)] at O;exact O) J L aD
     have ha:a=0:=aD
     have hb:b=0:=aD
     subst ha hb
     rw [r]
     refine .pure Z (bS f) (.win _ id m 0 0 hN rfl ⟨bC _,eJ _⟩ λo' ho'=>.inr ⟨?_,.inl ⟨?_,rfl,rfl⟩⟩)
     .rw [C o' ho'];omega
     .rw [C o' ho'];exact r
    .have f:=zJ (P:=P) (w:=w) i B (some ⟨g,0,none⟩) k.es.length y a7 vlo vhi a b T (by rw [a3];exact O) J L aD
     rw [Q]
     refine .pure Z f ?_
     refine .win _ id m a b hN rfl ⟨aD,aD⟩ λo' ho'=>.inr ⟨?_,.inr ⟨g,y,?_,aD,?_⟩⟩
     .rw [C o' ho'];omega
     .rw [C o' ho',Q,a3]
     .rw [C o' ho',lz.sz,a9,F]
      simp only [Int.toNat_natCast]
      split<;>simp [jG]
  .exact p.elim
 .rename_i s
  split at p
  .rename_i l h i hl hh
   obtain ⟨J,L,h2⟩:=p
   cases hx
   have T:=zH U E hl
   have O:=zH V G hh
   exact ⟨trivial,.pure Z (HI i s vlo vhi l h T O J L h2) (.str _)⟩
  .exact p.elim
 .exact p.elim
theorem VR {a:Nat}{k:Blk}(b:H.get a=some k):H.put a k=H:=by
 unfold AHeap.put
 have:(λi=>if i=a then some k else H.get i)=H.get:=by
  grind
 rw [this]
theorem QK {es:List (List D)}{b a:Nat}{z:List D}(c:b<=a)(d:a<=es.length):(es.take b++List.replicate (a - b) z++es.drop a).length=es.length:=by simp;omega
theorem Li {n:Nat}{es:List (List D)}{a b:Nat}{z:List D}(d:∀ c∈es,c.length=n)(f:z.length=n)(g:a<=b)(i:b<=es.length) :
  (es.take a++List.replicate (b - a) z++es.drop b).flatten=es.flatten.take (a * n)++(List.replicate (b - a) z).flatten++es.flatten.drop (a * n+(List.replicate (b - a) z).flatten.length):=by
 rw [kZ,kZ,qZ es a d,q6 es b d,lI,f,<- Nat.add_mul,(aD:a+(b - a)=b)]
theorem NA {t ty:TypeId}{V:Value}{x:D}(hR:Rel M0 H σ w)(hx:RepV (cX M0 H σ) σ H.al w V x)(hc:(uD P t x H).cond) :
  (uD P t x H).fact/\OpS P (Builtin.clear_ #[t] ty #[V]) M0 H σ w (uD P t x H).val (uD P t x H).heap:=by
 unfold uD at *
 split at hc
 .rename_i id ver a c
  split at hc
  .rename_i s k hs hk
   obtain ⟨b1,Z,c7,a9⟩:=hc
   obtain ⟨f,ti,z,a8,hz,c0,_,c8,_,X,v,a1,a7⟩:=qU hs
   obtain ⟨o,ho,l⟩:=hR.lies id k hk
   obtain ⟨U,a2,Y,n⟩:=l.row
   have d0:=l.ver
   cases hx
   rename_i b7 hN a5 h
   have hw:TS o V ver a c:=by
    rcases h o ho with h'|⟨_,R⟩
    .omega
    .exact R
   have L:a=c->(k.es.take a++List.replicate (c - a) s.z++k.es.drop c)=k.es:=λe=>by subst e;simp
   have a0:RepV (cX M0 H σ) σ H.al w (.tuple #[]) (.tup []):=.tup [] [] rfl (λj u d f m=>by simp at f)
   refine ⟨trivial,?_⟩
   have y:a=c->(Builtin.clear_ #[t] ty #[V]).run P w=.ok (.tuple #[]) w->OpS P (Builtin.clear_ #[t] ty #[V]) M0 H σ w (.tup []) (H.put id { k with es:=k.es.take a++List.replicate (c - a) s.z++k.es.drop c }):=λe A=>by
    rw [L e,VR hk]
    exact .pure hR A a0
   rcases hw with ⟨R,rfl,h4⟩|⟨b,S,R,c3,rfl⟩
   .exact y aD (by simp [Builtin.clear_,run_underlying f])
   .by_cases he:a=c
    .refine y he ?_
     subst he
     simp [Builtin.clear_,run_underlying f]
    .have b4:S≠a:=aD
     rw [if_neg b4]
     rcases a2.2 with ⟨I,_⟩|⟨g,c4,i,G,b5,hg,a4,b3,b2,K⟩
     .rw [R] at I;cases I
     .rw [R] at G
      cases G
      have F:o.esz=s.sz:=l.sz.trans a9
      have c5:U.length=k.es.length * o.esz:=n.len.trans (kQ k.es l.esz)
      have c2:k.es.length * o.esz<=i.size:=by rw [b2];exact eQ _ a4
      obtain ⟨hr,h1⟩:=pJ (M:=cX M0 H σ) (σ:=σ) (N:=H.al) (w:=w) z (c - a) aD (by rw [<- X];exact a7)
      rw [<- X] at hr
      have r:(madeCells z.cells ((c - a) * z.cells.size)).toList.length=(c - a) * o.esz:=by simp [size_madeCells,a1,F]
      have c9:(madeCells z.cells ((c - a) * z.cells.size)).size=(c - a) * o.esz:=by rw [<- r,fS]
      have b8:a * o.esz+(c - a) * o.esz=c * o.esz:=by rw [<- Nat.add_mul,(aD:a+(c - a)=c)]
      have c1:c * o.esz<=k.es.length * o.esz:=eQ _ aD
      have E:=run_storeCells_at (P:=P) b (a * o.esz) k.ty (madeCells z.cells ((c - a) * z.cells.size)).toList 0 i w hg (by rw [r];omega) h1
      simp only [sN] at E
      have J:∀ w,(zeroValue s.e).run P w=.ok z w:=λw=>by simp [zeroValue,typeInfo,a8,hz]
      obtain ⟨q,hq⟩:∃ q,c - a=q+1:=⟨c - a - 1,aD⟩
      have A:(Builtin.clear_ #[t] ty #[.slice (some ⟨b,a * o.esz,none⟩) (c - a) (S - a)]).run P w=.ok (.tuple #[]) (w.setRow b (i.toList.take (a * o.esz)++(madeCells z.cells ((c - a) * z.cells.size)).toList++i.toList.drop (a * o.esz+(madeCells z.cells ((c - a) * z.cells.size)).toList.length)).toArray):=by
       rw [hq] at E ⊢
       simp only [Builtin.clear_]
       simp [run_underlying f,J]
       have b0:Builtin.zeroCells z.cells (q+1)=madeCells z.cells ((q+1) * z.cells.size):=rfl
       rw [b0]
       simp at E
       simp [E]
      have C:=QK (z:=s.z) a5.1 (aD:c<=k.es.length)
      have a6:=Li (z:=s.z) l.esz (by rw [v,F]) a5.1 (aD:c<=k.es.length)
      have a3:(List.replicate (c - a) s.z).flatten.length=(c - a) * o.esz:=by rw [lI,v,F]
      have hp:=Rel.put hR hk b1 ho { k with es:=k.es.take a++List.replicate (c - a) s.z++k.es.drop c } o (w':=w.setRow b (i.toList.take (a * o.esz)++(madeCells z.cells ((c - a) * z.cells.size)).toList++i.toList.drop (a * o.esz+(madeCells z.cells ((c - a) * z.cells.size)).toList.length)).toArray)
       ⟨rfl,rfl,rfl,by simp,λq _ hq=>setRow_other w b q _ (λe=>hq (by rw [e];simp [Ow.block,R,Value.ownBlock]))⟩ (λb' hb'=>.inl hb') (.inl rfl) (by rw [C];exact l.ver) l.ty l.sz
       (λd m=>by
        simp only [aV] at m
        rcases m with (m|m)|m
        .exact l.esz d (cK m)
        .rw [kC m,v,F]
        .exact l.esz d (eR m))
       (U.take (a * o.esz)++(madeCells z.cells ((c - a) * z.cells.size)).toList++U.drop (a * o.esz+(madeCells z.cells ((c - a) * z.cells.size)).toList.length))
       ⟨by simp only [aJ,bQ,jA,r,C];omega,.inr ⟨b,S,_,by rw [C];simpa [Z] using R,b5,setRow_heap w b i _ k.ty _ hg,by rw [C];exact a4,b3,by simp only [mP,aJ,bQ,jA,r,fS];omega,by
        simp only [C]
        rw [<- K]
        apply eZ
        intro j
        simp only [bU,iR,bQ,bZ,fS]
        by_cases hj:j<k.es.length * o.esz
        .rw [if_pos hj]
         have m1:min (a * o.esz) i.size=a * o.esz:=aD
         have m2:min (a * o.esz) (min (k.es.length * o.esz) i.size)=a * o.esz:=aD
         rw [m1,m2]
         split
         .first|rfl|rw [if_pos hj]
         .split
          .rfl
          .first|rfl|rw [if_pos aD]
        .rw [if_neg hj]
         have m2:min (a * o.esz) (min (k.es.length * o.esz) i.size)=a * o.esz:=aD
         rw [m2,if_neg aD,if_neg aD,if_neg aD]⟩⟩
       (λu f=>by
        simp only [aV] at f
        rcases f with (f|f)|f
        .exact Y u (cK f)
        .exact h1 u f
        .exact Y u (eR f))
       ⟨by simp only [a6,aJ,bQ,jA,r,a3,n.len],λj u d f m=>by
        simp only [a6] at m
        have Q:k.es.flatten.length=U.length:=n.len.symm
        simp only [iR,bQ,bU,bZ,Q,r,a3] at f m
        have m1:min (a * o.esz) U.length=a * o.esz:=aD
        rw [m1] at f m
        split at m
        .rename_i B
         rw [if_pos B] at f
         try rw [if_pos B] at f
         try rw [if_pos B] at m
         exact n.rep j u d f m
        .rename_i B
         rw [if_neg B] at f
         split at m
         .rename_i O
          rw [if_pos O] at f
          exact hr.rep _ u d f m
         .rename_i O
          rw [if_neg O] at f
          exact n.rep _ u d f m⟩
      simp only [F8 o id ho] at hp
      exact ⟨_,_,σ,A,hp.1,.tup [] [] rfl (λj u d f m=>by simp at f),hp.2.1,hp.2.2⟩
  .exact hc.elim
 .exact hc.elim
theorem M4 {t:TypeId}{A B:Value}{x i:D}(G:Rel M0 H σ w)(E:RepV (cX M0 H σ) σ H.al w A x)(F:RepV (cX M0 H σ) σ H.al w B i)(c:(sD P t x i H).cond) :
  (sD P t x i H).fact/\OpS P (Instr.index t A B) M0 H σ w (sD P t x i H).val (sD P t x i H).heap:=by
 unfold sD at *
 split at c
 .rename_i s J n
  split at c
  .rename_i l
   obtain ⟨y,Q⟩:=c
   cases E;cases F
   obtain ⟨q,rfl⟩:=eB y
   have hq:q<s.size:=aD
   have hq':q<s.data.size:=hq
   refine ⟨trivial,.pure G (v:=.int .u8 ((s.data[q]'hq').toNat:Int)) ?_ ?_⟩
   .have:s[q]?=some (s[q]'hq):=by simp [hq]
    simp [Instr.index,asIntOf,run_underlying l,this]
    rfl
   .have e:s.data[q]?=some (s.data[q]'hq'):=bG hq'
    simp only [Int.toNat_natCast,e,Option.getD_some]
    exact .int _ _
  .exact c.elim
 .rename_i V J n
  split at c
  .rename_i I S g e M l
   split at c
   .rename_i m
    obtain ⟨⟨y,Q⟩,O,u⟩:=c
    cases E;cases F
    rename_i z K T L
    obtain ⟨q,rfl⟩:=eB y
    simp only [Int.toNat_natCast] at u ⊢
    obtain ⟨U,R,d,r,j⟩:=NN M
    rw [l] at d
    simp at d
    obtain ⟨rfl,rfl⟩:=d
    have N:=Sw (w:=w) m
    have hq:q<z.length:=aD
    have o:q<g:=aD
    refine ⟨trivial,.pure G (v:=z[q]) ?_ ?_⟩
    .simp [Instr.index,asIntOf,run_underlying l,o,sizeOf,typeInfo,r,j,O,part,N,hq]
    .rw [aA u]
     exact L q _ _ (aA hq) (aA u)
   .exact c.elim
  .exact c.elim
 .exact c.elim
end
end Go.Abs
end
section
namespace Go.Abs
section
variable {P:Program} {M0:Nat→Prop} {H:AHeap} {σ:Nat→Option Ow} {w:World}
def T7 (P:Program)(x:Sem Next)(M0:Nat->Prop)(H:AHeap)(σ:Nat->Option Ow)(w:World)(d:D)(H':AHeap):Prop :=
 ∃ v w' σ',(x.run P w=.ok (.value v) w'\/(x.run P w=.ok .skip w'/\v=undef))/\Rel M0 H' σ' w'/\RepV (cX M0 H' σ') σ' H'.al w' v d/\Stp σ w σ' w' /\
  Keeps (cX M0 H σ) σ H.al w (cX M0 H' σ') σ' H'.al w'
theorem OpS.next {x:Sem Value}{d:D}{H':AHeap}(h:OpS P x M0 H σ w d H'):T7 P (do Pure.pure (Next.value (<- x))) M0 H σ w d H':=by
 obtain ⟨v,a,σ',b,g,f,e,c⟩:=h
 exact ⟨v,a,σ',.inl (by simp [b]),g,f,e,c⟩
theorem OpU.next {x:Sem Unit}{H':AHeap}(h:OpU P x M0 H σ w H'):T7 P (do x;Pure.pure Next.skip) M0 H σ w .junk H':=by
 obtain ⟨b,σ',c,f,e,d⟩:=h
 exact ⟨undef,b,σ',.inr ⟨by simp [c],rfl⟩,f,.junk _,e,d⟩
def EnvR (M:Nat->Prop)(σ:Nat->Option Ow)(N:Nat->Prop)(w:World)(ρ:Operand->Value)(e:Nat->D):Prop :=
 (∀ t,RepV M σ N w (ρ (.tmp t)) (e t))/\(∀ v,ρ (.const v)=v)/\∀ f,ρ (.func f)=.func (.func f) #[] #[]
theorem EnvR.ev {M:Nat->Prop}{N:Nat->Prop}{ρ:Operand->Value}{e:Nat->D}(h:EnvR M σ N w ρ e)(x:Operand):RepV M σ N w (ρ x) (eH e x):=by
 cases x with
 | tmp t=>exact h.1 t
 | const v=>rw [h.2.1];exact G5 v
 | func f=>rw [h.2.2];exact .fn f [] [] rfl (λj u d hu=>by simp at hu)
 | global g=>exact .junk _
theorem EnvR.parts {M:Nat->Prop}{N:Nat->Prop}{ρ:Operand->Value}{e:Nat->D}(h:EnvR M σ N w ρ e)(a:List (Nat × Operand)) :
  Parts M σ N w (a.map λp=>(p.1,ρ p.2)) (a.map λp=>(p.1,eH e p.2)):=by
 refine ⟨by simp [Function.comp_def],λj v d hv hd=>?_⟩
 simp only [List.map_map,aH,bL] at hv hd
 obtain ⟨p,c,rfl⟩:=hv
 obtain ⟨q,b,rfl⟩:=hd
 rw [c] at b;cases b
 exact h.ev p.2
theorem RR (m:Rel M0 H σ w)(a:Nat):Rel M0 (H.frz a) σ w/\Keeps (cX M0 H σ) σ H.al w (cX M0 (H.frz a) σ) σ (H.frz a).al w/\(H.frz a).al=H.al /\
  ∀ i,((H.frz a).get i).map (·.es)=(H.get i).map (·.es)/\(∀ k,H.get i=some k->k.fz=true\/i=a->∃ k',(H.frz a).get i=some k'/\k'.fz=true/\k'.es=k.es):=by
 unfold AHeap.frz
 cases r:H.get a with
 | none =>
  refine ⟨m,.refl _ _ _ _,rfl,λi=>⟨rfl,λk hik h=>?_⟩⟩
  grind
 | some k =>
  simp only
  have c:∀ i,((H.put a { k with fz:=true }).get i).map (·.es)=(H.get i).map (·.es)/\(∀ k0,H.get i=some k0->k0.fz=true\/i=a->∃ k',(H.put a { k with fz:=true }).get i=some k'/\k'.fz=true/\k'.es=k0.es):=by
   intro i
   by_cases s:i=a
   .subst s
    refine ⟨by simp [AHeap.put,r],λk0 h0 _=>⟨{ k with fz:=true },by simp [AHeap.put],rfl,?_⟩⟩
    grind
   .refine ⟨by simp [AHeap.put,s],λk0 h0 h=>?_⟩
    rcases h with h|h
    .exact ⟨k0,by simp [AHeap.put,s,h0],h,rfl⟩
    grind
  by_cases v:k.fz=false
  .obtain ⟨o,u,l⟩:=m.lies a k r
   obtain ⟨x,d,z,e⟩:=l.row
   have p:=Rel.put m (w':=w) r v u { k with fz:=true } o ⟨rfl,rfl,rfl,bC _,λ_ _ _=>rfl⟩ (λb hb=>.inl hb) (.inl rfl) l.ver l.ty l.sz l.esz x d z e
   simp only [F8 o a u] at p
   exact ⟨p.1,p.2.2,rfl,c⟩
  .have y:H.put a { k with fz:=true } = H:=by
    have f:k.fz=true:=by simpa using v
    have q:({ k with fz:=true }:Blk)=k:=by cases k;simp at f;subst f;rfl
    obtain ⟨n,A,g⟩:=H
    simp only [AHeap.put,q,AHeap.mk.injEq,true_and]
    grind
   rw [y] at c ⊢
   exact ⟨m,.refl _ _ _ _,rfl,c⟩
theorem fH (a:List Nat):∀ {H:AHeap},Rel M0 H σ w->Rel M0 (fE a H) σ w/\Keeps (cX M0 H σ) σ H.al w (cX M0 (fE a H) σ) σ (fE a H).al w/\(fE a H).al=H.al /\
  ∀ i,((fE a H).get i).map (·.es)=(H.get i).map (·.es)/\(∀ k,H.get i=some k->k.fz=true\/i∈a->∃ k',(fE a H).get i=some k'/\k'.fz=true/\k'.es=k.es):=by
 induction a with
 | nil=>intro H o;exact ⟨o,.refl _ _ _ _,rfl,λi=>⟨rfl,λk e h=>⟨k,e,by simpa using h,rfl⟩⟩⟩
 | cons id a ih =>
  intro H o
  obtain ⟨v,u,t,l⟩:=RR o id
  obtain ⟨z,y,x,m⟩:=ih v
  refine ⟨z,u.trans y,x.trans t,λi=>⟨(m i).1.trans (l i).1,λk e h=>?_⟩⟩
  rcases h with h|h
  .obtain ⟨c,r,q,p⟩:=(l i).2 k e (.inl h)
   obtain ⟨b,j,g,f⟩:=(m i).2 c r (.inl q)
   exact ⟨b,j,g,f.trans p⟩
  .rcases bP.1 h with rfl|h
   .obtain ⟨c,r,q,p⟩:=(l i).2 k e (.inr rfl)
    obtain ⟨b,j,g,f⟩:=(m i).2 c r (.inl q)
    exact ⟨b,j,g,f.trans p⟩
   .have n:=(l i).1
    rw [e] at n
    cases d:(H.frz id).get i with
    | none=>rw [d] at n;cases n
    | some c =>
     obtain ⟨b,j,g,f⟩:=(m i).2 c d (.inr h)
     refine ⟨b,j,g,f.trans ?_⟩
     simp_all
theorem GT {v:Value}{e n:Nat}{k:Blk}(x:Rel M0 H σ w)(C:RepV (cX M0 H σ) σ H.al w v (.own e n))(F:H.get e=some k)(N:k.fz=true)(L:k.es.length=n) :
  RepV (cX M0 H σ) σ H.al w v (.list k.es):=by
 obtain ⟨o,q,l⟩:=x.lies e k F
 obtain ⟨A,b,m,c⟩:=l.row
 cases C
 rename_i Q O h
 rcases h o q with R|⟨P,rfl⟩
 .have:=l.ver;omega
 .rcases b.2 with ⟨f,I⟩|⟨g,y,J,a,_,_,r,s,_⟩
  .rw [f,bJ I];exact .listN
  .have d:o.block=some g:=by simp [Ow.block,a,Value.ownBlock]
   rw [a]
   refine .list ⟨g,0,none⟩ y o.esz A k.es r s l.esz c.len m (λj u hu=>⟨?_,b.cells (g:=g) (by simpa [Ow.block] using d) j u hu⟩) c.rep
   rintro (D|⟨i,K,B,E,G,p,t⟩)
   .exact (x.lt e o g q d).2 D
   .have M:=x.inj i e B o g p q t d
    grind
theorem MX {M:Nat->Prop}{N:Nat->Prop}{ad:Addr}{g sz:Nat}{es:List (List D)}{a b:Nat}(h:RepV M σ N w (.slice (some ad) es.length g) (.list es))(k:∀ c∈es,c.length=sz)(A:a<=b)(K:b<=es.length) :
  RepV M σ N w (.slice (some (if g=a then ad else ad.add (a * sz))) (b - a) (g - a)) (.list ((es.take b).drop a)):=by
 rcases rT h with ⟨F,_⟩|⟨G,v,z,y,E,i,o,l,B,J,s⟩
 .cases F
 .cases E
  have n:((es.take b).drop a).length=b - a:=by simp;omega
  have m:∀ c∈(es.take b).drop a,c.length=sz:=λc hc=>k c (cK (eR hc))
  have f:((es.take b).drop a).flatten=(es.flatten.take (b * sz)).drop (a * sz):=by
   rw [q6 _ a (λc hc=>k c (cK hc)),qZ _ b k]
  by_cases q:g=a
  .have r:b=a:=aD
   subst r
   have t:(es.take b).drop b=[]:=gH (by simp;omega)
   have:=RepV.list (M:=M) (σ:=σ) (N:=N) (w:=w) ad (b - b) 0 [] [] aF aF aF rfl aF (λj u e=>by simp at e) (λj u d e=>by simp at e)
   grind
  .rw [if_neg q]
   have I:=RepV.list (M:=M) (σ:=σ) (N:=N) (w:=w) (ad.add (a * sz)) (g - a) sz ((y.take (b * sz)).drop (a * sz)) ((es.take b).drop a) (by rw [n];omega) aD m
    (by rw [f];simp [i.len]) (λu e=>o u (cK (eR e))) (λj u e=>by
     rw [bZ,bU] at e
     split at e
     .obtain ⟨O,L⟩:=l _ u e
      rw [gX,CC]
      grind
     .cases e) (λj u d e p=>by
     rw [f,bZ,bU] at p
     rw [bZ,bU] at e
     split at e
     .rename_i C;rw [if_pos C] at p;exact i.rep _ u d e p
     .cases e)
   grind
theorem Pk {v:Value}{i n f m:Nat}{k:Blk}(x:Rel M0 H σ w)(z:RepV (cX M0 H σ) σ H.al w v (.win i n f m))(t:H.get i=some k)(A:k.fz=true)(s:k.es.length=n) :
  RepV (cX M0 H σ) σ H.al w v (.list ((k.es.take m).drop f)):=by
 obtain ⟨o,D,l⟩:=x.lies i k t
 have r:=l.ver
 cases z
 rename_i E B j h
 have q:TS o v n f m:=by
  grind
 have a:RepV (cX M0 H σ) σ H.al w o.val (.list k.es):=by
  refine GT (n:=n) x (.own o.val i n B ?_ λo' ho'=>?_) t A s
  .rcases q with ⟨g,_⟩|⟨b,p,g,_⟩<;>rw [g]<;>rfl
  grind
 rcases q with ⟨g,y,C⟩|⟨b,p,g,u,y⟩
 .subst y C
  simpa using RepV.listN
 .rw [g,<- s] at a
  have:=MX a (λc u=>l.esz c u) j.1 aD
  have e:(Addr.add ⟨b,0,none⟩ (f * o.esz))=⟨b,f * o.esz,none⟩:=by simp [jG]
  grind
theorem oZ {H H':AHeap}(h:∀ i,(H'.get i).map (·.es)=(H.get i).map (·.es))(d:D):eM H' d=eM H d:=by
 cases d<;>try rfl
 .rename_i a n
  simp only [eM]
  grind
 .rename_i a n b c
  simp only [eM]
  grind
theorem lT {v:Value}{d:D}(h:Rel M0 H σ w)(a:RepV (cX M0 H σ) σ H.al w v d)(g:∀ i∈kO d,∀ k,H.get i=some k->k.fz=true) :
  RepV (cX M0 H σ) σ H.al w v (eM H d):=by
 cases d<;>try exact a
 .rename_i c n
  simp only [eM]
  cases e:H.get c with
  | none=>exact a
  | some k =>
   simp only
   split
   .rename_i f
    exact GT h a e (g c (by simp [kO]) k e) f
   .exact a
 .rename_i c n j l
  simp only [eM]
  cases e:H.get c with
  | none=>exact a
  | some k =>
   simp only
   split
   .rename_i f
    exact Pk h a e (g c (by simp [kO]) k e) f
   .exact a
theorem lS {v:Value}{d:D}(t:Rel M0 H σ w)(e:RepV (cX M0 H σ) σ H.al w v d)(a:List Nat)(h:∀ i∈dK d,i∈a) :
  RepV (cX M0 (fE a H) σ) σ (fE a H).al w v (iP H d):=by
 obtain ⟨o,z,A,m⟩:=fH a t
 have b:=e.keep z
 have c:∀ i∈a,∀ k,(fE a H).get i=some k->k.fz=true:=λi h k hk=>by
  have l:=(m i).1
  rw [hk] at l
  cases g:H.get i with
  | none=>rw [g] at l;cases l
  | some k0 =>
   grind
 cases d with
 | agg cs =>
  cases b
  rename_i p f s r
  refine .agg p _ (bS s) f λj u x hu e=>?_
  rw [aH,bL] at e
  obtain ⟨y,q,rfl⟩:=e
  rw [<- oZ (λi=>(m i).1) y]
  refine lT o (r j u y hu q) λi hii k hk=>c i (h i ?_) k hk
  simp only [dK,bH]
  grind
 | _ =>
  simp only [iP]
  rw [<- oZ (λi=>(m i).1)]
  exact lT o b λi hii k hk=>c i (h i hii) k hk
theorem PH {md:Nat->Bool}{v:Value}{d:D}(e:Rel M0 H σ w)(c:RepV (cX M0 H σ) σ H.al w v d)(a:List Nat)(b:∀ i∈KO md d,i∈a) :
  RepV (cX M0 (fE a H) σ) σ (fE a H).al w v (QD md H d):=by
 unfold QD;unfold KO at b
 split
 .exact c.keep (fH a e).2.1
 .rename_i h;rw [if_neg h] at b;exact lS e c a b
theorem Eb {x:Operand}(h:i6 x=true):x=.const (.slice none 0 0):=by grind [i6]
theorem Gj {nid:Nat}(B:¬ H.al nid){md:Nat->Bool}{e:Nat->D}{o:Oper}{ρ:Operand->Value}(z:Rel M0 H σ w)(r:EnvR (cX M0 H σ) σ H.al w ρ e)(h:(EQ P nid md e o H).cond) :
  (EQ P nid md e o H).fact/\T7 P (execOp ρ o) M0 H σ w (EQ P nid md e o H).val (EQ P nid md e o H).heap:=by
 obtain ⟨b4,op,E,b3,b1,b0⟩:=o
 unfold EQ execOp at *
 simp only at h ⊢
 cases op<;>try (exact h.elim)
 case move x =>
  simp only at h ⊢
  by_cases V:i6 x=true
  .rw [if_pos V] at h ⊢
   have J:=Eb V;subst J
   obtain ⟨k,g⟩:=IR (P:=P) B (x:=(Pure.pure (ρ (.const (.slice none 0 0))):Sem Value)) z (by show Result.ok (ρ _) w=_;rw [r.2.1]) h
   obtain ⟨v,T,σ',hr,h3⟩:=g
   have U:Result.ok (ρ (.const (.slice none 0 0))) w=Result.ok v T:=hr
   injection U with e1 e2
   subst e1;subst e2
   exact ⟨k,_,_,σ',.inl rfl,h3⟩
  .rw [if_neg V] at h ⊢
   exact ⟨trivial,ρ x,w,σ,.inl rfl,z,r.ev x,.refl _ _,.refl _ _ _ _⟩
 case assign x =>
  simp only at h ⊢
  by_cases V:i6 x=true
  .rw [if_pos V] at h ⊢
   have J:=Eb V;subst J
   obtain ⟨k,g⟩:=IR (P:=P) B (x:=(Pure.pure (ρ (.const (.slice none 0 0))):Sem Value)) z (by show Result.ok (ρ _) w=_;rw [r.2.1]) h
   obtain ⟨v,T,σ',hr,h3⟩:=g
   have U:Result.ok (ρ (.const (.slice none 0 0))) w=Result.ok v T:=hr
   injection U with e1 e2
   subst e1;subst e2
   exact ⟨k,_,_,σ',.inl rfl,h3⟩
  .rw [if_neg V] at h ⊢
   exact ⟨trivial,ρ x,w,σ,.inl rfl,z,r.ev x,.refl _ _,.refl _ _ _ _⟩
 case pick c a b =>
  obtain ⟨k,g⟩:=OT z (r.ev c) (r.ev a) (r.ev b) h
  exact ⟨k,by simpa using g.next⟩
 case alloc t =>
  obtain ⟨k,g⟩:=NQ (P:=P) B z h
  exact ⟨k,g.next⟩
 case box t x =>
  obtain ⟨k,g⟩:=R1 (P:=P) B z (r.ev x) h
  exact ⟨k,g.next⟩
 case build t ps =>
  obtain ⟨k,g⟩:=NC (P:=P) z (r.parts ps.toList) h
  refine ⟨k,?_⟩
  have:=g.next
  rw [show (List.map (λp=>(p.1,ρ p.2)) ps.toList).toArray=ps.map (λp=>(p.1,ρ p.2)) by rw [<- Array.toList_map]] at this
  exact this
 case buildSlice t n ps =>
  obtain ⟨f1,f2,f3,f4⟩:=fH (ps.toList.flatMap λp=>KO md (eH e p.2)) z
  have M:Parts (cX M0 (fE (ps.toList.flatMap λp=>KO md (eH e p.2)) H) σ) σ (fE (ps.toList.flatMap λp=>KO md (eH e p.2)) H).al w
    (ps.toList.map λp=>(p.1,ρ p.2)) (ps.toList.map λp=>(p.1,QD md H (eH e p.2))):=by
   refine ⟨by simp [Function.comp_def],λj v d S N=>?_⟩
   simp only [List.map_map,aH,bL] at S N
   obtain ⟨p,hp,rfl⟩:=S
   obtain ⟨q,hq,rfl⟩:=N
   rw [hp] at hq;cases hq
   exact PH z (r.ev p.2) _ λi W=>bH.2 ⟨p,aI hp,W⟩
  obtain ⟨k,g⟩:=Dx (P:=P) (by rw [f3];exact B) f1 M h
  refine ⟨k,?_⟩
  have:=g.next
  rw [show (List.map (λp=>(p.1,ρ p.2)) ps.toList).toArray=ps.map (λp=>(p.1,ρ p.2)) by rw [<- Array.toList_map]] at this
  obtain ⟨v,T,σ',a1,a2,a3,a4,a5⟩:=this
  exact ⟨v,T,σ',a1,a2,a3,a4,f2.trans a5⟩
 case load t a =>
  obtain ⟨k,g⟩:=O2 (P:=P) z (r.ev a) h
  exact ⟨k,g.next⟩
 case store t a v =>
  have Z:∀ (G:AHeap) (Q R:D),Rel M0 G σ w->Keeps (cX M0 H σ) σ H.al w (cX M0 G σ) σ G.al w->RepV (cX M0 G σ) σ G.al w (ρ a) Q->RepV (cX M0 G σ) σ G.al w (ρ v) R ->
    (lF P t Q R G).cond->(lF P t Q R G).fact/\T7 P (do Instr.storeAt t (ρ a) (ρ v);Pure.pure Next.skip) M0 H σ w (lF P t Q R G).val (lF P t Q R G).heap:=by
   intro G Q R a8 a9 a6 a7 F
   have g:=LC (P:=P) a8 a6 a7 F
   have X:(lF P t Q R G).fact/\(lF P t Q R G).val=.junk:=by
    simp only [lF] at F ⊢
    split at F
    .split at F
     .split at F
      .exact ⟨trivial,rfl⟩
      .exact F.elim
     .exact F.elim
    .exact F.elim
   refine ⟨X.1,?_⟩
   rw [X.2]
   obtain ⟨v',T,σ',a1,a2,a3,a4,a5⟩:=g.next
   exact ⟨v',T,σ',a1,a2,a3,a4,a9.trans a5⟩
  simp only at h ⊢
  by_cases hm:md 1000000=true
  .rw [if_pos hm] at h ⊢
   obtain ⟨f1,f2,f3,f4⟩:=fH (dK (eH e v)) z
   exact Z _ _ _ f1 f2 ((r.ev a).keep f2) (lS z (r.ev v) _ λi W=>W) h
  .rw [if_neg hm] at h ⊢
   exact Z H _ _ z (.refl _ _ _ _) (r.ev a) (r.ev v) h
 case nilCheck x =>
  obtain ⟨a,k,g,h3,h4⟩:=Gp z (r.ev x) h
  refine ⟨g,ρ x,w,σ,.inl ?_,by rw [h4];exact z,by rw [h4];exact h3,.refl _ _,by rw [h4];exact .refl _ _ _ _⟩
  simp [k]
 case binOp op t x y t' =>
  obtain ⟨k,g⟩:=RW (P:=P) (t:=t) (ox:=x) (oy:=y) z (r.ev x) (r.ev y) h
  exact ⟨k,g.next⟩
 case unOp op t x =>
  obtain ⟨k,g⟩:=Sr (P:=P) z (r.ev x) h
  exact ⟨k,g.next⟩
 case convert s d x =>
  obtain ⟨k,g⟩:=Id (P:=P) z (r.ev x) h
  exact ⟨k,g.next⟩
 case makeFunc fn first caps =>
  cases fn<;>try (exact h.elim)
  rename_i f
  simp only at h ⊢
  by_cases X:first.isEmpty=true
  .rw [if_pos X]
   have:first=#[]:=by simpa using X
   subst this
   refine ⟨trivial,⟨.func (.func f) #[] (caps.toList.map ρ).toArray,w,σ,.inl (by simp [Instr.makeFunc];rw [<- Array.toList_map]),z,.fn f _ _ aF (λj u d hu N=>?_),.refl _ _,.refl _ _ _ _⟩⟩
   simp only [aH,bL] at hu N
   obtain ⟨p,hp,rfl⟩:=hu
   obtain ⟨q,hq,rfl⟩:=N
   rw [hp] at hq;cases hq
   exact r.ev p
  .rw [if_neg X] at h;exact h.elim
 case makeSlice t l c =>
  obtain ⟨k,g⟩:=OX (P:=P) B z (r.ev l) (r.ev c) h
  exact ⟨k,g.next⟩
 case slice t x lo W mx =>
  cases mx with
  | some m=>exact h.elim
  | none =>
   obtain ⟨k,g⟩:=LG (P:=P) (vlo:=lo.map ρ) (vhi:=W.map ρ) z (r.ev x) (λv d S N=>by
    cases lo with
    | none=>cases S
    | some o=>cases S;cases N;exact r.ev o) (by cases lo<;>rfl) (λv d S N=>by
    cases W with
    | none=>cases S
    | some o=>cases S;cases N;exact r.ev o) (by cases W<;>rfl) h
   exact ⟨k,g.next⟩
 case fieldAddr t x f =>
  obtain ⟨k,g⟩:=EM (P:=P) z (r.ev x) h
  exact ⟨k,g.next⟩
 case indexAddr t x i =>
  obtain ⟨k,g⟩:=EK (P:=P) z (r.ev x) (r.ev i) h
  exact ⟨k,g.next⟩
 case index t x i =>
  obtain ⟨k,g⟩:=M4 (P:=P) z (r.ev x) (r.ev i) h
  exact ⟨k,g.next⟩
 case extract t i =>
  obtain ⟨k,g⟩:=H9 (P:=P) z (r.ev t) h
  exact ⟨k,g.next⟩
 case call c =>
  obtain ⟨O,C,ts⟩:=c
  cases O<;>try (exact h.elim)
  rename_i b
  obtain ⟨C⟩:=C
  obtain ⟨ts⟩:=ts
  simp only [List.map_toArray,resolve,invoke,T7,Sem.run_bind,Sem.run_pure,Result.andThen_ok] at h ⊢
  unfold vI at *
  split at h
  .rename_i xd td K
   match C,K with
   | [ox],K =>
    cases K
    obtain ⟨k,g⟩:=RH (P:=P) (ty:=E) z (r.ev ox) h
    exact ⟨k,by simpa [T7,builtin] using g.next⟩
  .rename_i xd yd td b2 K
   match C,K with
   | [ox,oy],K =>
    cases K
    obtain ⟨k,g⟩:=Ii (P:=P) B (ty:=E) z (r.ev ox) (r.ev oy) h
    exact ⟨k,by simpa [T7,builtin] using g.next⟩
  .rename_i xd td K
   match C,K with
   | [ox],K =>
    cases K
    obtain ⟨k,g⟩:=NA (P:=P) (ty:=E) z (r.ev ox) h
    exact ⟨k,by simpa [T7,builtin] using g.next⟩
  .rename_i x y J
   match C,J with
   | [ox,oy],J =>
    cases J
    obtain ⟨k,g⟩:=IV (P:=P) (b:=.min) (mx:=false) (t:=E)  rfl z (r.ev ox) (r.ev oy) h
    exact ⟨k,by simpa [T7,builtin] using g.next⟩
  .rename_i x y J
   match C,J with
   | [ox,oy],J =>
    cases J
    obtain ⟨k,g⟩:=IV (P:=P) (b:=.max) (mx:=true) (t:=E)  rfl z (r.ev ox) (r.ev oy) h
    exact ⟨k,by simpa [T7,builtin] using g.next⟩
  .exact h.elim
end
end Go.Abs
end
section
namespace Go.Abs
def VE (P:Program)(f:FuncId):Prop:=∃ fn,P.funcs[f]?=some fn/\(fn.name=="runtime.NumGoroutine")=false/\fn.body.isSome=true
def ACalls (P:Program)(f:FuncId)(args:List D)(H:AHeap)(Q:D->AHeap->Prop):Prop :=
 VE P f/\∀ (M0:Nat->Prop) (σ:Nat->Option Ow) (w:World) (vals:List Value),Rel M0 H σ w->RepL (cX M0 H σ) σ H.al w vals args ->
  Calls P f vals.toArray w λe w'=>∃ v d H' σ',e=.returned v/\Rel M0 H' σ' w'/\RepV (cX M0 H' σ') σ' H'.al w' v d/\Stp σ w σ' w' /\
   Keeps (cX M0 H σ) σ H.al w (cX M0 H' σ') σ' H'.al w'/\Q d H'
theorem ACalls.mono {P:Program}{f:FuncId}{args:List D}{H:AHeap}{Q Q':D->AHeap->Prop}(h:ACalls P f args H Q)(hq:∀ d H',Q d H'->Q' d H'):ACalls P f args H Q' :=
 ⟨h.1,λM0 σ w vals hR ha=>(h.2 M0 σ w vals hR ha).mono λ_ _ ⟨v,d,H',σ',a,b,c,s,k,q⟩=>⟨v,d,H',σ',a,b,c,s,k,hq _ _ q⟩⟩
def nZ (e:Nat->D)(dst:Option Tmp)(v:D):Nat->D :=
 match dst with
 | some d=>λt=>if t=d then v else e t
 | none=>e
structure St (n:Nat) (M0:Nat->Prop) (H:AHeap) (σ:Nat->Option Ow) (w:World) (e:Nat->D) (a:Act):Prop where
 rel:Rel M0 H σ w
 env:∀ t,RepV (cX M0 H σ) σ H.al w (a.tmps.getD t undef) (e t)
 defers:a.defers=[]
 size:a.tmps.size=n
section
variable {P:Program} {M0:Nat→Prop} {H:AHeap} {σ:Nat→Option Ow} {w:World} {n:Nat} {e:Nat→D} {a:Act}
theorem St.envR (h:St n M0 H σ w e a):EnvR (cX M0 H σ) σ H.al w a.eval e:=⟨h.env,λ_=>rfl,λ_=>rfl⟩
def p8 (n:Nat):Option Tmp->Bool
 | some d=>decide (d<n)
 | none=>true
theorem St.put {H':AHeap}{σ':Nat->Option Ow}{w':World}(h:St n M0 H σ w e a)(i:Rel M0 H' σ' w')(g:Keeps (cX M0 H σ) σ H.al w (cX M0 H' σ') σ' H'.al w')
  {b:Option Tmp} (l:p8 n b=true) {v:Value} {d:D} (j:RepV (cX M0 H' σ') σ' H'.al w' v d):St n M0 H' σ' w' (nZ e b d) (a.put b v):=by
 cases b with
 | none=>exact ⟨i,λt=>(h.env t).keep g,h.defers,h.size⟩
 | some q =>
  have k:q<a.tmps.size:=by rw [h.size];simpa [p8] using l
  refine ⟨i,λt=>?_,h.defers,by simpa [Act.put] using h.size⟩
  by_cases f:t=q
  .subst f
   simpa [nZ,Act.put,k] using j
  .have c:¬ q=t:=λe=>f e.symm
   have:=(h.env t).keep g
   simpa [nZ,Act.put,f,c,Array.getElem?_setIfInBounds] using this
theorem DE {nid:Nat}{md:Nat->Bool}{e g:Nat->D}{o:Oper}(h:∀ x∈o.op.operands,eH e x=eH g x):EQ P nid md e o H=EQ P nid md g o H:=by
 obtain ⟨K,q,w,B,u,r⟩:=o
 have A:∀ (l:List (Nat × Operand)),(∀ p∈l,eH e p.2=eH g p.2)->(l.map λp=>(p.1,eH e p.2))=l.map λp=>(p.1,eH g p.2):=λl m =>
  bW λp hp=>by rw [m p hp]
 unfold EQ
 cases q<;>simp only [Op.operands] at h ⊢<;>first|rfl|skip
 case move x=>rw [h x aF]
 case assign x=>rw [h x aF]
 case pick c a b=>rw [h c aF,h a aF,h b aF]
 case box t x=>rw [h x aF]
 case build t ps =>
  grind
 case buildSlice t n ps =>
  have m:∀ p∈ps.toList,eH e p.2=eH g p.2:=λp hp=>h p.2 (by simpa using ⟨p.1,by simpa using hp⟩)
  have I:(ps.toList.map λp=>(p.1,QD md H (eH e p.2)))=ps.toList.map λp=>(p.1,QD md H (eH g p.2)):=bW λp hp=>by rw [m p hp]
  have G:(ps.toList.flatMap λp=>KO md (eH e p.2))=ps.toList.flatMap λp=>KO md (eH g p.2):=by
   rw [List.flatMap_def,List.flatMap_def,bW λp hp=>by rw [m p hp]]
  rw [I,G]
 case load t a=>rw [h a aF]
 case store t a v=>rw [h a aF,h v aF]
 case nilCheck x=>rw [h x aF]
 case binOp q t x y t'=>rw [h x aF,h y aF]
 case unOp q t x=>rw [h x aF]
 case convert s d x=>rw [h x aF]
 case makeFunc J first caps =>
  cases J<;>simp only
  have:caps.toList.map (eH e)=caps.toList.map (eH g):=bW λx hx=>h x (by simp;exact .inr (bS hx))
  rw [this]
 case makeSlice t l c=>rw [h l aF,h c aF]
 case slice t x E F C =>
  cases C<;>simp only
  rw [h x aF]
  cases E<;>cases F<;>simp only [Option.map_none,c6]
  .rename_i y;rw [h y aF]
  .rename_i y;rw [h y aF]
  .rename_i y z;rw [h y aF,h z aF]
 case fieldAddr t x f=>rw [h x aF]
 case indexAddr t x i=>rw [h x aF,h i aF]
 case index t x i=>rw [h x aF,h i aF]
 case extract t i=>rw [h t aF]
 case call c =>
  obtain ⟨j,k,L⟩:=c
  cases j<;>simp only
  have:k.toList.map (eH e)=k.toList.map (eH g):=bW λx hx=>h x (by simpa [Call.operands] using hx)
  rw [this]
theorem oH {e d:Nat->D}{o:Oper}(h:∀ x∈o.op.operands,eH e x=eH d x):f7 e o=f7 d o:=by
 obtain ⟨n,l,j,k,i,g⟩:=o
 unfold f7
 cases l<;>simp only
 rename_i c
 obtain ⟨a,b,p⟩:=c
 cases a<;>simp only
 rename_i f
 have m:eH e f=eH d f:=h f (by simp [Op.operands,Call.operands])
 have:b.toList.map (eH e)=b.toList.map (eH d):=bW λx hx=>h x (by simp [Op.operands,Call.operands];exact .inr (bS hx))
 rw [m,this]
/-! ### guards -/
def gD (ops:Array Oper)(e:Nat->D)(j:Nat):Option (Bool × Bool) :=
 match (ops[j]?).bind (·.dst) with
 | some t=>match e t with
  | .bool c=>some (true,c)
  | .opt g (.bool c)=>some (g,c)
  | _=>none
 | none=>none
def DL (e:Nat->D):Nat->D:=λt=>match e t with | .opt _ d=>d|d=>d
def gE (e:Nat->D)(op:Op):Nat->D :=
 match op with
 | .pick (.tmp c) _ _=>λt=>if t=c then DL e t else e t
 | .pick _ _ _=>e
 | _=>DL e
def gO (op:Op):List Operand :=
 match op with
 | .pick c _ _=>[c]
 | op=>op.operands.toList
theorem Wu {a:Op}{x:Operand}(h:x∈gO a):x∈a.operands:=by
 cases a<;>simp only [gO] at h<;>first|(simpa using h)|(simp only [aW] at h;subst h;simp [Op.operands])
def og (e:Nat->D):Operand->Bool
 | .tmp t=>match e t with
  | .opt g _=>g
  | _=>true
 | _=>true
def Sh (e:Nat->D):List Operand->Bool
 | []=>true
 | x :: l=>og e x&&Sh e l
theorem Un {l:List Operand}(h:Sh e l=true):∀ x∈l,og e x=true:=by
 induction l with
 | nil=>simp
 | cons a l ih =>
  simp only [Sh,aN] at h
  grind
theorem JO (B:St n M0 H σ w e a){ops:Array Oper}{o:Oper}{j:Nat}{b g c:Bool}(z:o.guard=some (j,b))(h:gD ops e j=some (g,c)) :
  Region.wanted o (yielded ops a.tmps)=(g&&(c==b)):=by
 unfold gD at h
 cases l:(ops[j]?).bind (·.dst) with
 | none=>simp [l] at h
 | some t =>
  simp only [l] at h
  have m:a.tmps.getD t undef=(a.tmps[t]?).getD undef:=aF
  have d:=B.env t
  rw [m] at d
  have u:∀ s:Bool,(a.tmps[t]?).getD undef=.bool s->yielded ops a.tmps j=some s:=by
   intro s k
   cases i:a.tmps[t]? with
   | none=>rw [i] at k;simp [undef] at k
   | some x=>rw [i] at k;simp at k;subst k;simp [yielded,l,i]
  simp only [Region.wanted,z]
  split at h
  .rename_i C r
   cases h
   rw [r] at d
   have k:(a.tmps[t]?).getD undef=.bool c:=by generalize (a.tmps[t]?).getD undef=v at d;cases d;rfl
   grind
  .rename_i D C r
   cases h
   rw [r] at d
   generalize p:(a.tmps[t]?).getD undef=v at d
   cases d
   rename_i A q
   cases g with
   | true =>
    have:=q rfl
    cases this
    grind
   | false =>
    have y:=A rfl
    have:yielded ops a.tmps j=none:=by
     cases i:a.tmps[t]? with
     | none=>simp [yielded,l,i]
     | some x=>rw [i] at p;simp at p;rw [y] at p;subst p;simp [yielded,l,i]
    grind
  .cases h
/-! ### one operation -/
def fN (S:List Nat)(H' H:AHeap):Prop:=∀ i∈S,H'.get i=H.get i
def dQ:D->List Nat
 | .own id _=>[id]
 | .win id _ _ _=>[id]
 | .ptr id _ _ _=>[id]
 | .agg cs=>cs.flatMap kO
 | _=>[]
def Gt:Op->Bool
 | .alloc _ | .box .. | .buildSlice .. | .makeSlice ..=>true
 | .call { callee:=.builtin .append,.. }=>true
 | .move x | .assign x=>i6 x
 | _=>false
def p6:Op->Bool
 | .load .. | .store .. | .nilCheck _ | .fieldAddr .. | .indexAddr .. | .slice .. | .alloc _ | .box .. | .buildSlice .. | .makeSlice ..=>true
 | .call _=>true
 | .move x | .assign x=>i6 x
 | _=>false
def foot (nid:Nat)(e:Nat->D)(o:Op):List Nat :=
 (if Gt o then [nid] else [])++(if p6 o then o.operands.toList.flatMap λx=>dQ (eH e x) else [])
def AHeap.pushs (H:AHeap):List (Nat × Blk)->AHeap
 | []=>H
 | p :: l=>AHeap.pushs (H.push p.1 p.2) l
def AHeap.puts (H:AHeap):List (Nat × Blk)->AHeap
 | []=>H
 | p :: l=>AHeap.puts (H.put p.1 p.2) l
def oJ (P:Program)(md:Nat->Bool)(dr:Option Nat)(nid:Nat)(ops:Array Oper)(e:Nat->D)(o:Oper)(H:AHeap)(K:D->AHeap->List Nat->Prop):Prop :=
  match o.guard with
  | none=>match f7 e o with
    | some (f,args) =>
      match dr with
      | some m=>(∃ r S,(∀ H',fN S H' H->ACalls P f args H' λv H1=>v=r/\H1=H')/\K r H S) \/
          (EH md o.dst=true/\∃ r S u q,(∀ p∈u,p.1∈S)/\(∀ p∈q,p.1<m/\¬ H.al p.1) /\
            (∀ H',fN S H' H->(∀ p∈q,p.1<H'.next/\¬ H'.al p.1)->ACalls P f args H' λv H1=>v=r/\H1=(H'.puts u).pushs q)/\K r ((H.puts u).pushs q) (S++q.map (·.1)))
      | none=>ACalls P f args H λv H1=>K v H1 []
    | none=>(EQ P nid md e o H).cond/\((dr=none->(EQ P nid md e o H).fact)->K (EQ P nid md e o H).val (EQ P nid md e o H).heap (foot nid e o.op))
  | some (j,b)=>match gD ops e j with
    | some (g,c)=>((g&&(c==b))=true->Sh e (gO o.op)=true) /\
      match f7 (gE e o.op) o with
      | some (f,args) =>
        match dr with
        | some _=>∃ r S,((g&&(c==b))=true->∀ H',fN S H' H->ACalls P f args H' λv H1=>v=r/\H1=H')/\K (.opt (g&&(c==b)) r) H S
        | none=>(∃ r S,((g&&(c==b))=true->∀ H',fN S H' H->ACalls P f args H' λv H1=>v=r/\H1=H')/\K (.opt (g&&(c==b)) r) H S) \/
          (((g&&(c==b))=true->ACalls P f args H λv H1=>K (.opt true v) H1 [])/\((g&&(c==b))=false->∃ r,K (.opt false r) H []))
      | none=>((g&&(c==b))=true->(EQ P nid md (gE e o.op) o H).cond/\(EQ P nid md (gE e o.op) o H).heap=H) /\
          ((dr=none->(g&&(c==b))=true->(EQ P nid md (gE e o.op) o H).fact)->K (.opt (g&&(c==b)) (EQ P nid md (gE e o.op) o H).val) H (foot nid (gE e o.op) o.op))
    | none=>False
theorem Bg {o:Oper}{f:FuncId}{args:List D}{ρ:Operand->Value}{e:Nat->D}(C:∀ x∈o.op.operands,RepV (cX M0 H σ) σ H.al w (ρ x) (eH e x))(a:f7 e o=some (f,args))(T:VE P f) :
  ∃ vals,(execOp ρ o).run P w=.ok (.enter f vals.toArray) w/\RepL (cX M0 H σ) σ H.al w vals args:=by
 obtain ⟨V,L,z,K,y,t⟩:=o
 unfold f7 at a
 cases L<;>simp only at a<;>try (cases a;done)
 rename_i c
 obtain ⟨b,I,W⟩:=c
 cases b<;>simp only at a<;>try (cases a;done)
 rename_i E
 split at a
 .rename_i g G S
  simp at a
  obtain ⟨rfl,rfl⟩:=a
  have i:=C E (by simp [Op.operands,Call.operands])
  rw [S] at i
  generalize M:ρ E=v at i
  cases i
  rename_i J O N
  obtain ⟨F,r,n,U⟩:=T
  refine ⟨I.toList.map ρ++J,?_,⟨by simp [O],λj u d hu hd=>?_⟩⟩
  .have s:F.body.isNone=false:=by cases R:F.body<;>simp [R] at U ⊢
   have h:Sem.run P program w=.ok P w:=rfl
   simp only [execOp,resolve,M,Deferred.ofValue,invoke,callFunc,Sem.run_bind,Sem.run_pure,Result.andThen_ok,h,r,n,s,eD,if_false]
   simp_all
  .by_cases Q:j<I.size
   .rw [aT (bS Q)] at hu hd
    simp only [aH,bL] at hu hd
    obtain ⟨p,B,rfl⟩:=hu
    obtain ⟨q,A,rfl⟩:=hd
    rw [B] at A;cases A
    exact C p (by simp [Op.operands,Call.operands];exact .inr (by simpa using aI B))
   .rw [bB (by simp;omega)] at hu hd
    simp only [aS,fS] at hu hd
    exact N _ u d hu hd
 .cases a
def StepC (P:Program)(ops:Array Oper)(Q:Exit->Act->World->Prop)(o:Oper)(Kc:Act->World->Prop)(a:Act)(w:World):Prop :=
 if Region.wanted o (yielded ops a.tmps) then o.wp P a w Kc Q\/(o.asks P a w/\LetsOut Q) else Kc (a.put o.dst undef) w
theorem AT {o:Oper}{f:FuncId}{args:List D}{vals:List Value}{c:Act->World->Prop}{Q:Exit->Act->World->Prop}(b:(execOp a.eval o).run P w=.ok (.enter f vals.toArray) w)
  (h:Calls P f vals.toArray w λe w'=>∃ v,e=.returned v/\c (a.put o.dst v) w'):o.wp P a w c Q:=by
 unfold Oper.wp
 rw [b,Oper.upon_enter]
 exact h.mono λe w' ⟨v,g,d⟩=>by subst g;exact d
theorem zE {md:Nat->Bool}{dr:Option Nat}{nid:Nat}{ops:Array Oper}{o:Oper}{K:D->AHeap->List Nat->Prop}{Q:Exit->Act->World->Prop}
  (h:oJ P md dr nid ops e o H K) (s:St n M0 H σ w e a) (hn:¬ H.al nid) (V:p8 n o.dst=true) (hm:∀ m,dr=some m->m<=H.next:=by intro _ h;cases h) :
  StepC P ops Q o (λa' w'=>∃ v H' F σ',K v H' F/\St n M0 H' σ' w' (nZ e o.dst v) a'/\Stp σ w σ' w'/\Keeps (cX M0 H σ) σ H.al w (cX M0 H' σ') σ' H'.al w') a w:=by
 unfold oJ at h
 unfold StepC
 cases hg:o.guard with
 | none =>
  simp only [hg] at h
  have hw:Region.wanted o (yielded ops a.tmps)=true:=by simp [Region.wanted,hg]
  rw [if_pos hw]
  left
  cases I:f7 e o with
  | none =>
   simp only [I] at h
   obtain ⟨k,v,w',σ',i,N,Y,h5,J⟩:=Gj (P:=P) hn s.rel s.envR h.1
   unfold Oper.wp
   rcases i with i|⟨i,rfl⟩
   .rw [i,Oper.upon_value]
    exact ⟨_,_,_,σ',h.2 (λ_=>k),s.put N J V Y,h5,J⟩
   .rw [i,Oper.upon_skip]
    exact ⟨_,_,_,σ',h.2 (λ_=>k),s.put N J V Y,h5,J⟩
  | some fa =>
   obtain ⟨f,args⟩:=fa
   simp only [I] at h
   have C:∀ Q':D->AHeap->Prop,ACalls P f args H Q'->(∀ v H',Q' v H'->∃ F,K v H' F) ->
     o.wp P a w (λa' w'=>∃ v H' F σ',K v H' F/\St n M0 H' σ' w' (nZ e o.dst v) a'/\Stp σ w σ' w'/\Keeps (cX M0 H σ) σ H.al w (cX M0 H' σ') σ' H'.al w') Q:=by
    intro Q' hA hQ
    obtain ⟨y,z,A⟩:=Bg (P:=P) (λx _=>s.envR.ev x) I hA.1
    refine AT (args:=args) z ((hA.2 M0 σ w y s.rel A).mono λe' w' ⟨v,d,H',σ',he,X,hv,T,M,hq⟩=>?_)
    obtain ⟨F,hF⟩:=hQ _ _ hq
    exact ⟨v,he,d,H',F,σ',hF,s.put X M V hv,T,M⟩
   cases dr with
   | none=>exact C _ h λv H' M=>⟨[],M⟩
   | some m =>
    rcases h with ⟨r,S,k,i⟩|⟨_,r,S,u,q,hu,hq,k,i⟩
    .exact C _ (k H λ_ _=>rfl) λv H' ⟨e1,G⟩=>⟨S,by rw [e1,G];exact i⟩
    .exact C _ (k H (λ_ _=>rfl) λp hp=>⟨cW (hq p hp).1 (hm m rfl),(hq p hp).2⟩) λv H' ⟨e1,G⟩=>⟨S++q.map (·.1),by rw [e1,G];exact i⟩
 | some jb =>
  obtain ⟨j,b⟩:=jb
  simp only [hg] at h
  cases U:gD ops e j with
  | none=>simp [U] at h
  | some gc =>
   obtain ⟨g,c⟩:=gc
   simp only [U] at h
   have hw:=JO (n:=n) s hg U
   rw [hw]
   generalize hq:(g&&(c==b))=q at h
   obtain ⟨a2,h⟩:=h
   cases q with
   | false =>
    simp only [eD,if_false]
    have O:∀ d,St n M0 H σ w (nZ e o.dst (.opt false d)) (a.put o.dst undef):=λd =>
     s.put s.rel (.refl _ _ _ _) V (.opt _ _ _ (λ_=>rfl) (λh=>by cases h))
    cases I:f7 (gE e o.op) o with
    | none =>
     simp only [I] at h
     exact ⟨_,H,_,σ,h.2 (λ_ h=>by cases h),O _,.refl _ _,.refl _ _ _ _⟩
    | some fa =>
     obtain ⟨f,args⟩:=fa
     simp only [I] at h
     have h':∃ r S,K (.opt false r) H S:=by
      cases dr with
      | some _=>obtain ⟨r,S,k,i⟩:=h;exact ⟨r,S,i⟩
      | none =>
       rcases h with ⟨r,S,k,i⟩|⟨k,i⟩
       .exact ⟨r,S,i⟩
       .obtain ⟨r,i⟩:=i trivial;exact ⟨r,[],i⟩
     obtain ⟨r,S,i⟩:=h'
     exact ⟨_,H,S,σ,i,O _,.refl _ _,.refl _ _ _ _⟩
   | true =>
    simp only [if_true]
    left
    have R:=Un (a2 rfl)
    have a1:∀ t,og e (.tmp t)=true->RepV (cX M0 H σ) σ H.al w (a.eval (.tmp t)) (DL e t):=by
     intro t i
     have k:=s.envR.ev (.tmp t)
     simp only [eH] at k
     simp only [og] at i
     simp only [DL]
     split
     .rename_i g' d' a3
      rw [a3] at k i
      generalize a.eval (.tmp t)=v at k
      cases k
      rename_i _ k
      exact k i
     .exact k
    have hE:∀ x∈o.op.operands,RepV (cX M0 H σ) σ H.al w (a.eval x) (eH (gE e o.op) x):=by
     intro x hx
     have h0:=s.envR.ev x
     cases x with
     | tmp t =>
      simp only [eH] at h0 ⊢
      by_cases a0:∃ c' x' y',o.op=.pick c' x' y'
      .obtain ⟨c',x',y',L⟩:=a0
       rw [L]
       have a5:=R c' (by simp [gO,L])
       cases c' with
       | tmp c' =>
        simp only [gE]
        split
        .rename_i a4;subst a4;exact a1 _ a5
        .exact h0
       | _=>exact h0
      .have N:gE e o.op=DL e/\gO o.op=o.op.operands.toList:=by
        cases L:o.op<;>first|exact ⟨rfl,rfl⟩|exact absurd ⟨_,_,_,L⟩ a0
       rw [N.1]
       exact a1 t (R _ (by rw [N.2];simpa using hx))
     | _=>exact h0
    classical
    let G:Nat->D:=λt=>if (Operand.tmp t)∈o.op.operands then gE e o.op t else .junk
    have W:∀ x∈o.op.operands,eH (gE e o.op) x=eH G x:=by
     intro x hx
     cases x with
     | tmp t=>simp [eH,G,hx]
     | _=>rfl
    have a6:EnvR (cX M0 H σ) σ H.al w a.eval G:=by
     refine ⟨λt=>?_,λ_=>rfl,λ_=>rfl⟩
     by_cases ht:(Operand.tmp t)∈o.op.operands
     .have:=hE _ ht
      simp only [G,if_pos ht]
      exact this
     .simp only [G,if_neg ht];exact .junk _
    cases I:f7 (gE e o.op) o with
    | none =>
     simp only [I] at h
     obtain ⟨k,i⟩:=h
     obtain ⟨E,B⟩:=k trivial
     rw [DE W] at E B i
     obtain ⟨k,v,w',σ',Z,N,Y,h5,J⟩:=Gj (P:=P) hn s.rel a6 E
     rw [B] at N Y J
     unfold Oper.wp
     rcases Z with Z|⟨Z,rfl⟩
     .rw [Z,Oper.upon_value]
      exact ⟨_,_,_,σ',i λ_ _=>k,s.put N J V (.opt _ _ _ (λh=>by cases h) λ_=>Y),h5,J⟩
     .rw [Z,Oper.upon_skip]
      exact ⟨_,_,_,σ',i λ_ _=>k,s.put N J V (.opt _ _ _ (λh=>by cases h) λ_=>Y),h5,J⟩
    | some fa =>
     obtain ⟨f,args⟩:=fa
     simp only [I] at h
     have h':ACalls P f args H λv H1=>∃ S,K (.opt true v) H1 S:=by
      have hl:(∃ r S,((true:Bool)=true->∀ H',fN S H' H->ACalls P f args H' λv H1=>v=r/\H1=H')/\K (.opt true r) H S)->ACalls P f args H λv H1=>∃ S,K (.opt true v) H1 S:=by
       rintro ⟨r,S,k,i⟩
       exact (k rfl H λ_ _=>rfl).mono λv H1 ⟨e1,G⟩=>⟨S,by rw [e1,G];exact i⟩
      cases dr with
      | some _=>exact hl (bS h)
      | none =>
       rcases h with h|⟨k,i⟩
       .exact hl (bS h)
       .exact ACalls.mono (bS k) λv H1 M=>⟨[],M⟩
     obtain ⟨y,z,A⟩:=Bg (P:=P) hE I h'.1
     refine AT (args:=args) z ((h'.2 M0 σ w y s.rel A).mono λe' w' ⟨v,d,H',σ',he,X,hv,T,M,S,i⟩=>?_)
     exact ⟨v,he,_,_,S,σ',i,s.put X M V (.opt _ _ _ (λh=>by cases h) λ_=>hv),T,M⟩
end
end Go.Abs
end
section
namespace Go.Abs
def KM (sp:List (Nat × Nat))(i:Nat)(F:List Nat)(acc:List (Nat × List Nat)):Prop :=
 match sp with
 | []=>True
 | _=>∀ p∈acc,(p.1,i)∈sp->∀ x∈p.2,x∉F
def kL (P:Program)(md:Nat->Bool)(ops:Array Oper)(sp:List (Nat × Nat))(n0:Nat):Nat->List Oper->List (Nat × List Nat)->(Nat->D)->AHeap->((Nat->D)->AHeap->Prop)->Prop
 | _,[],_,e,H,K=>K e H
 | i,o :: rest,acc,e,H,K=>oJ P md (some n0) (n0+i) ops e o H λv H' F=>KM sp i F acc/\kL P md ops sp n0 (i+1) rest ((i,F) :: acc) (nZ e o.dst v) H' K
/-! ### which operations come ahead of which -/
def NJ:List Oper->List Nat->List Nat
 | [],acc=>acc
 | o :: rest,acc=>NJ rest (acc++[o.after.toList.foldl (λs e=>if Region.binds .any e then s ||| 2 ^ e.on ||| acc.getD e.on 0 else s) 0])
def vK:Op->Bool
 | .store .. | .alloc _ | .box .. | .buildSlice .. | .makeSlice ..=>true
 | .call { callee:=.builtin .append,.. } | .call { callee:=.builtin .clear,.. }=>true
 | .move x | .assign x=>i6 x
 | _=>false
def EY (md:Nat->Bool)(o:Oper):Bool:=match o.op with
 | .call { callee:=.value _,.. }=>EH md o.dst
 | _=>false
def mF (md:Nat->Bool)(o:Oper):Bool:=vK o.op||EY md o
def KL (ops:Array Oper)(x y:Oper):Bool:=!(x.apart ops y)
def Hf (md:Nat->Bool)(x y:Oper):Bool:=p6 x.op&&p6 y.op&&(mF md x||mF md y)
def vO (md:Nat->Bool)(ops:Array Oper)(sp:List (Nat × Nat)):Bool :=
  let b:=NJ ops.toList []
  (List.range ops.size).all λj=>match ops[j]? with
    | none=>true
    | some y=>(y.after.toList.all λe=>!Region.binds .any e||decide (e.on<j)) &&
      (match y.guard with|none=>true|some (g,_)=>decide (g<ops.size)) &&
      (List.range j).all λi=>match ops[i]? with
        | none=>true
        | some x=>(b.getD j 0).testBit i||(!KL ops x y&&(!Hf md x y||sp.contains (i,j)))
def K9 (ops:Array Oper)(S:Nat->Bool):Prop:=∀ j o,ops[j]?=some o->S j=true->∀ e∈o.after.toList,Region.binds .any e=true->S e.on=true
theorem Jk (S:Nat->Bool)(acc:List Nat)(hacc:∀ k i,S k=true->(acc.getD k 0).testBit i=true->S i=true) :
  ∀ (es:List Edge) (s:Nat),(∀ e∈es,Region.binds .any e=true->S e.on=true)->(∀ i,s.testBit i=true->S i=true) ->
   ∀ i,(es.foldl (λs e=>if Region.binds .any e then s ||| 2 ^ e.on ||| acc.getD e.on 0 else s) s).testBit i=true->S i=true
 | [],s,_,hs,i,h=>hs i h
 | e :: es,s,he,hs,i,h=>by
  simp only [Bn] at h
  refine Jk S acc hacc es _ (λe' h'=>he e' (by simp [h'])) (λi hi=>?_) i h
  split at hi
  .rename_i hb
   have hSe:=he e aF hb
   rw [Nat.testBit_or,Nat.testBit_or,cO,cO] at hi
   rcases hi with (hi|hi)|hi
   .exact hs i hi
   .rw [Nat.testBit_two_pow] at hi
    have:e.on=i:=by simpa using hi
    rw [<- this];exact hSe
   .exact hacc e.on i hSe hi
  .exact hs i hi
theorem JB {ops:Array Oper}{S:Nat->Bool}(r:K9 ops S):∀ j i,S j=true->((NJ ops.toList []).getD j 0).testBit i=true->S i=true:=by
 have f:∀ (l:List Oper) (a:List Nat),(∀ (k:Nat),(ops.toList.drop a.length)[k]?=l[k]?)->(∀ k i,S k=true->(a.getD k 0).testBit i=true->S i=true) ->
   ∀ j i,S j=true->((NJ l a).getD j 0).testBit i=true->S i=true:=by
  intro l
  induction l with
  | nil=>intro a _ b j i d c;exact b j i d c
  | cons o l ih =>
   intro a p b j i d c
   refine ih _ (λk=>?_) (λk i hk hi=>?_) j i d c
   .have:=p (k+1)
    simp only [bZ,HA,aJ,eV,pQ] at this ⊢
    grind
   .rw [List.getD_eq_getElem?_getD] at hi
    by_cases m:k<a.length
    .rw [aT m,<- List.getD_eq_getElem?_getD] at hi
     grind
    .by_cases n:k=a.length
     .subst n
      rw [bB (bC _),Nat.sub_self] at hi
      have q:=p 0
      have g:ops[a.length]?=some o:=by simpa using q
      exact Jk S a b o.after.toList 0 (λe he c=>r _ o g hk e he c) (λi h=>by simp at h) i hi
     .rw [bB aD,bE (by simp;omega)] at hi
      simp at hi
 exact λj i d c=>f ops.toList [] (λk=>by simp) (λk i hk hi=>by simp at hi) j i d c
def fY (p:Nat->Bool):Nat->Option Nat
 | 0=>none
 | n+1=>if p n then some n else fY p n
theorem jZ {p q:Nat->Bool}:∀ (n:Nat),(∀ k,k<n->p k=q k)->fY p n=fY q n
 | 0,_=>rfl
 | n+1,h=>by simp only [fY,h n aD,jZ n (λk hk=>h k aD)]
theorem A6 {p:Nat->Bool}(m:Nat):∀ (n:Nat),m<=n->(∀ k,m<=k->k<n->p k=false)->fY p n=fY p m
 | 0,h,_=>by rw [Nat.le_zero.1 h]
 | n+1,h,hp=>by
  by_cases hm:m=n+1
  .rw [hm]
  .simp only [fY,hp n aD aD,eD,if_false]
   exact A6 m n aD λk h1 h2=>hp k h1 aD
end Go.Abs
end

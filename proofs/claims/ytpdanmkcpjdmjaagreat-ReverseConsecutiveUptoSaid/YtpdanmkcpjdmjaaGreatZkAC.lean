/- The abstraction layer, part J: slices of slices and strings; -/
import Derived.Test.YtpdanmkcpjdmjaaGreatZkAB
set_option linter.unusedVariables false
set_option linter.unusedSimpArgs false
section
namespace Go.Abs
section
variable {P:Program} {M0:Nat→Prop} {H:AHeap} {σ:Nat→Option Ow} {w:World}
theorem s5 {n:Nat}:∀ (es:UE) (i:Nat),(∀ c∈es,c.length=n)->(es.take i).flatten=es.flatten.take (i * n)
 | [],i,_=>by simp
 | e :: es,0,_=>by simp
 | e :: es,i+1,hl=>by
  have he:=hl e dB;simp only [uP,e8,s5 es i (λc hc=>hl c (by simp [hc])),Bb,Nat.add_mul,he];rw [aG (by omega:e.length<=i * n+1 * n)];congr 2;omega
theorem s6 {n:Nat}:∀ (es:UE) (i:Nat),(∀ c∈es,c.length=n)->(es.drop i).flatten=es.flatten.drop (i * n)
 | [],i,_=>by simp
 | e :: es,0,_=>by simp
 | e :: es,i+1,hl=>by
  have he:=hl e dB;simp only [List.drop_succ_cons,e8,s6 es i (λc hc=>hl c (by simp [hc])),List.drop_append,Nat.add_mul,he];rw [g8 (by omega:e.length<=i * n+1 * n)];simp only [dF];congr 1;omega
theorem AS {M:Nat->Prop}{N:Nat->Prop}{b:Option Value}{c:Option D}{a n:Int}(h:∀ v x,b=some v->c=some x->RepV M σ N w v x)(e:b.isSome=c.isSome)(d:WE c a=some n) :
  (b=none/\n=a)\/∃ k,b=some (.int k n):=by
 cases c with
 | none=>cases b with
  | none=>simp [WE] at d;exact .inl ⟨rfl,d.symm⟩
  | some v=>simp at e
 | some x=>cases b with
  | none=>simp at e
  | some v =>
   have:=h v x rfl rfl;cases x<;>simp [WE] at d
   cases this
   grind
theorem AV {e:TypeId}{t:TypeId}(n:P.underlying t=some (.slice e)){v:TypeInfo}(f:P.info? e=some v)(a:Option Addr)(len d:Nat)(z:len<=d)(p u:Option Value)(l h:Int)
  (A:(p=none/\l=0)\/∃ k,p=some (.int k l)) (B:(u=none/\h=len)\/∃ k,u=some (.int k h)) (y:0<=l) (C:l<=h) (F:h<=len) :
  (Instr.sliceAt t (.slice a len d) p u none).run P w=.ok (.slice (if d=l.toNat then a else a.map (·.add (l.toNat * v.size))) (h.toNat - l.toNat) (d - l.toNat)) w:=by
 have g:h<=(d:Int):=aD;have o:∀ (x:Nat) (k:IntKind) (i:Int) (j:BoundsCode),0<=i->i<=(x:Int)->(Instr.sliceBound (.int k i) x j).run P w=.ok i.toNat w:=by
  intro x k i j s r;simp [Instr.sliceBound,asIntOf,s,r]
 rcases A with ⟨rfl,rfl⟩|⟨D,rfl⟩<;>rcases B with ⟨rfl,rfl⟩|⟨E,rfl⟩
 .simp [Instr.sliceAt,Instr.slice,run_underlying n,Instr.sliceBounds,sizeOf,typeInfo,f]
 .simp [Instr.sliceAt,Instr.slice,run_underlying n,Instr.sliceBounds,sizeOf,typeInfo,f,o _ _ _ _ (by omega:(0:Int)<=h) g]
 .simp [Instr.sliceAt,Instr.slice,run_underlying n,Instr.sliceBounds,sizeOf,typeInfo,f,o len _ _ _ y C]
 .have q:l<=(h.toNat:Int):=aD;simp [Instr.sliceAt,Instr.slice,run_underlying n,Instr.sliceBounds,sizeOf,typeInfo,f,o _ _ _ _ (by omega:(0:Int)<=h) g,o _ _ _ _ y q]
theorem JR {t:TypeId}(c:P.underlying t=some .string)(s:ByteArray)(e m:Option Value)(l h:Int)
  (p:(e=none/\l=0)\/∃ k,e=some (.int k l)) (q:(m=none/\h=s.size)\/∃ k,m=some (.int k h)) (o:0<=l) (r:l<=h) (n:h<=s.size) :
  (Instr.sliceAt t (.string s) e m none).run P w=.ok (.string (s.extract l.toNat h.toNat)) w:=by
 have d:∀ (x:Nat) (k:IntKind) (i:Int) (a:BoundsCode),0<=i->i<=(x:Int)->(Instr.sliceBound (.int k i) x a).run P w=.ok i.toNat w:=by
  intro x k i a j g;simp [Instr.sliceBound,asIntOf,j,g]
 rcases p with ⟨rfl,rfl⟩|⟨u,rfl⟩<;>rcases q with ⟨rfl,rfl⟩|⟨v,rfl⟩
 .simp [Instr.sliceAt,Instr.slice,run_underlying c,Instr.sliceBounds]
 .simp [Instr.sliceAt,Instr.slice,run_underlying c,Instr.sliceBounds,d _ _ _ _ (by omega:(0:Int)<=h) n]
 .simp [Instr.sliceAt,Instr.slice,run_underlying c,Instr.sliceBounds,d s.size _ _ _ o r]
 .have f:l<=(h.toNat:Int):=aD;simp [Instr.sliceAt,Instr.slice,run_underlying c,Instr.sliceBounds,d _ _ _ _ (by omega:(0:Int)<=h) n,d _ _ _ _ o f]
theorem N9 {t:TypeId}{vx:Value}{x:D}{vlo vhi:Option Value}{X Y:Option D}(Z:Rel M0 H σ w)(hx:RepV (dJ M0 H σ) σ H.F w vx x)
  (U:∀ v x,vlo=some v->X=some x->RepV (dJ M0 H σ) σ H.F w v x) (E:vlo.isSome=X.isSome)
  (V:∀ v x,vhi=some v->Y=some x->RepV (dJ M0 H σ) σ H.F w v x) (G:vhi.isSome=Y.isSome) (p:(rI P t x X Y H).cond) :
  (rI P t x X Y H).X/\OpS P (Instr.sliceAt t vx vlo vhi none) M0 H σ w (rI P t x X Y H).val (rI P t x X Y H).heap:=by
 unfold rI at *;split at p
 .rename_i es;split at p
  .rename_i s l h hs hl hh;obtain ⟨J,L,h2,h3⟩:=p;obtain ⟨i,ti,z,B,hz,F,_,b4,_,_,b1,_⟩:=sZ hs;have T:=AS U E hl;have O:=AS V G hh;obtain ⟨a,rfl⟩:=e9 J;obtain ⟨b,rfl⟩:=e9 (Int.le_trans J L);simp only [Int.toNat_natCast];have b8:a<=b:=aD;have K:b<=es.length:=aD;refine ⟨trivial,?_⟩;rcases t6 hx with ⟨rfl,rfl⟩|⟨ad,y,sz,xs,rfl,R,a5,W,a8,hm,q⟩
   .have f:=AV (P:=P) (w:=w) i B none 0 0 (aZ _) vlo vhi a b T O J L (eQ h2);simp at K;subst K;have:a=0:=aD;subst this;refine .pure Z f ?_;simpa using RepV.listN
   .have f:=AV (P:=P) (w:=w) i B (some ad) es.length y a8 vlo vhi a b T O J L h2;simp only [Int.toNat_natCast,dM] at f;have S:((es.take b).drop a).length=b - a:=by simp;omega
    have a0:es≠[]->sz=s.Y:=λhne=>by
     cases es with
     | nil=>exact absurd rfl hne
     | cons e es=>simp at h3;exact (q e dB).symm.trans h3
    rw [F] at f;refine .pure Z f ?_;have a2:∀ c∈(es.take b).drop a,c.length=sz:=λc p=>q c (dC (fH p));have I:((es.take b).drop a).flatten=(es.flatten.take (b * sz)).drop (a * sz):=by
     rw [s6 _ a (λc p=>q c (dC p)),s5 _ b q]
    by_cases a4:y=a
    .have b0:b=a:=aD;subst b0;simp only [a4,if_true];have r:(es.take b).drop b=[]:=g8 (by simp;omega);rw [r];have:=RepV.list (M:=dJ M0 H σ) (σ:=σ) (N:=H.F) (w:=w) ad (b - b) 0 [] [] dB dB dB rfl dB (λj u i=>by simp at i) (λj u d i=>by simp at i);simpa using this
    .rw [if_neg a4];have hv:=RepV.list (M:=dJ M0 H σ) (σ:=σ) (N:=H.F) (w:=w) (ad.add (a * s.Y)) (y - a) sz ((xs.take (b * sz)).drop (a * sz)) ((es.take b).drop a) (by rw [S];omega) aD a2
      (by rw [I];simp [R.len]) (λu i=>a5 u (dC (fH i))) (λj u i=>by
       rw [cT,cF] at i;split at i
       .obtain ⟨h5,h6⟩:=W _ u i;rw [iL,DW];refine ⟨h5,?_⟩;rw [<- a0 (λe=>by subst e;simp at K;subst K;simp at *)];exact h6
       .cases i) (λj u d i hd=>by
       rw [I,cT,cF] at hd;rw [cT,cF] at i;split at i
       .rename_i hj;rw [if_pos hj] at hd;exact R.Z _ u d i hd
       .cases i)
     rw [S] at hv;exact hv
  .exact p.elim
 .rename_i id m;split at p
  .rename_i s k l h hs hk hl hh;obtain ⟨⟨J,L,h2⟩,a3,a9⟩:=p;obtain ⟨i,ti,z,B,hz,F,_⟩:=sZ hs;have T:=AS U E hl;have O:=AS V G hh;obtain ⟨a,rfl⟩:=e9 J;obtain ⟨b,rfl⟩:=e9 (Int.le_trans J L);simp only [Int.toNat_natCast];obtain ⟨o,ho,lz⟩:=Z.ah id k hk;obtain ⟨xs,a1,_,_⟩:=lz.row;cases hx
   rename_i b2 hN h;refine ⟨trivial,?_⟩;rcases h o ho with h'|⟨c0,rfl⟩
   .have:=lz.af;omega
   .have C:∀ o',σ id=some o'->o'=o:=λo' ho'=>by rw [ho] at ho';exact (Option.some.inj ho').symm
    rcases a1.2 with ⟨r,b3⟩|⟨g,y,c1,Q,b7,hg,a7,b6,b5,a6⟩
    .have f:=AV (P:=P) (w:=w) i B none 0 0 (aZ _) vlo vhi a b T (by rw [(aD:m=0)] at O;exact O) J L aD;have ha:a=0:=aD;have hb:b=0:=aD;subst ha hb;rw [r];refine .pure Z (eQ f) (.win _ id m 0 0 hN rfl ⟨aZ _,eB _⟩ λo' ho'=>.inr ⟨?_,.inl ⟨?_,rfl,rfl⟩⟩)
     .rw [C o' ho'];omega
     .rw [C o' ho'];exact r
    .have f:=AV (P:=P) (w:=w) i B (some ⟨g,0,none⟩) k.U.length y a7 vlo vhi a b T (by rw [a3];exact O) J L aD;rw [Q];refine .pure Z f ?_;refine .win _ id m a b hN rfl ⟨aD,aD⟩ λo' ho'=>.inr ⟨?_,.inr ⟨g,y,?_,aD,?_⟩⟩
     .rw [C o' ho'];omega
     .rw [C o' ho',Q,a3]
     .rw [C o' ho',lz.Y,a9,F];simp only [Int.toNat_natCast];split<;>simp [jI]
  .exact p.elim
 .rename_i s;split at p
  .rename_i l h i hl hh;obtain ⟨J,L,h2⟩:=p;cases hx
   have T:=AS U E hl;have O:=AS V G hh;exact ⟨trivial,.pure Z (JR i s vlo vhi l h T O J L h2) (.str _)⟩
  .exact p.elim
 .exact p.elim
theorem Yr {a:Nat}{k:Blk}(b:H.get a=some k):H.put a k=H:=by
 unfold AHeap.put;have:(λi=>if i=a then some k else H.get i)=H.get:=by
  grind
 rw [this]
theorem Tc {es:UE}{b a:Nat}{z:UN}(c:b<=a)(d:a<=es.length):(es.take b++List.replicate (a - b) z++es.drop a).length=es.length:=by simp;omega
theorem NI {n:Nat}{es:UE}{a b:Nat}{z:UN}(d:∀ c∈es,c.length=n)(f:z.length=n)(g:a<=b)(i:b<=es.length) :
  (es.take a++List.replicate (b - a) z++es.drop b).flatten=es.flatten.take (a * n)++(List.replicate (b - a) z).flatten++es.flatten.drop (a * n+(List.replicate (b - a) z).flatten.length):=by
 rw [mG,mG,s5 es a d,s6 es b d,mP,f,<- Nat.add_mul,(aD:a+(b - a)=b)]
theorem P3 {t ty:TypeId}{K:Value}{x:D}(hR:Rel M0 H σ w)(hx:RepV (dJ M0 H σ) σ H.F w K x)(Y:(wN P t x H).cond) :
  (wN P t x H).X/\OpS P (Builtin.clear_ #[t] ty #[K]) M0 H σ w (wN P t x H).val (wN P t x H).heap:=by
 unfold wN at *;split at Y
 .rename_i id ver lo hi;split at Y
  .rename_i s k hs hk;obtain ⟨a4,Q,b7,a2⟩:=Y;obtain ⟨hu,ti,z,a1,hz,b1,_,b8,_,L,i,S,a0⟩:=sZ hs;obtain ⟨o,ho,l⟩:=hR.ah id k hk;obtain ⟨J,T,O,c⟩:=l.row;have c0:=l.af;cases hx
   rename_i a9 hN W h;have hw:Wy o K ver lo hi:=by
    rcases h o ho with h'|⟨_,G⟩
    .omega
    .exact G
   have E:lo=hi->(k.U.take lo++List.replicate (hi - lo) s.z++k.U.drop hi)=k.U:=λe=>by subst e;simp
   have R:RepV (dJ M0 H σ) σ H.F w (.tuple #[]) (.tup []):=.tup [] [] rfl (λj u d hu hd=>by simp at hu);refine ⟨trivial,?_⟩;have m:lo=hi->(Builtin.clear_ #[t] ty #[K]).run P w=.ok (.tuple #[]) w->OpS P (Builtin.clear_ #[t] ty #[K]) M0 H σ w (.tup []) (H.put id { k with U:=k.U.take lo++List.replicate (hi - lo) s.z++k.U.drop hi }):=λe n=>by
    rw [E e,Yr hk];exact .pure hR n R
   rcases hw with ⟨G,rfl,h4⟩|⟨b,I,G,b4,rfl⟩
   .exact m aD (by simp [Builtin.clear_,run_underlying hu])
   .by_cases he:lo=hi
    .refine m he ?_;subst he;simp [Builtin.clear_,run_underlying hu]
    .have hcl:I≠lo:=aD;rw [if_neg hcl];rcases T.2 with ⟨A,_⟩|⟨g,b5,a,y,a7,hg,V,a6,a5,C⟩
     .rw [G] at A;cases A
     .rw [G] at y;cases y
      have v:o.H=s.Y:=l.Y.trans a2;have b6:J.length=k.U.length * o.H:=c.len.trans (mA k.U l.H);have b3:k.U.length * o.H<=a.size:=by rw [a5];exact fG _ V
      obtain ⟨hr,h1⟩:=rN (M:=dJ M0 H σ) (σ:=σ) (N:=H.F) (w:=w) z (hi - lo) aD (by rw [<- L];exact a0);rw [<- L] at hr;have f:(madeCells z.cells ((hi - lo) * z.cells.size)).toList.length=(hi - lo) * o.H:=by simp [size_madeCells,S,v]
      have b9:(madeCells z.cells ((hi - lo) * z.cells.size)).size=(hi - lo) * o.H:=by rw [<- f,gJ]
      have b0:lo * o.H+(hi - lo) * o.H=hi * o.H:=by rw [<- Nat.add_mul,(aD:lo+(hi - lo)=hi)]
      have b2:hi * o.H<=k.U.length * o.H:=fG _ aD;have r:=run_storeCells_at (P:=P) b (lo * o.H) k.ty (madeCells z.cells ((hi - lo) * z.cells.size)).toList 0 a w hg (by rw [f];omega) h1;simp only [uT] at r;have B:∀ w,(zeroValue s.e).run P w=.ok z w:=λw=>by simp [zeroValue,typeInfo,a1,hz]
      obtain ⟨q,hq⟩:∃ q,hi - lo=q+1:=⟨hi - lo - 1,aD⟩;have n:(Builtin.clear_ #[t] ty #[.slice (some ⟨b,lo * o.H,none⟩) (hi - lo) (I - lo)]).run P w=.ok (.tuple #[]) (w.setRow b (a.toList.take (lo * o.H)++(madeCells z.cells ((hi - lo) * z.cells.size)).toList++a.toList.drop (lo * o.H+(madeCells z.cells ((hi - lo) * z.cells.size)).toList.length)).toArray):=by
       rw [hq] at r ⊢;simp only [Builtin.clear_];simp [run_underlying hu,B];have a3:Builtin.zeroCells z.cells (q+1)=madeCells z.cells ((q+1) * z.cells.size):=rfl;rw [a3];simp at r;simp [r]
      have p:=Tc (z:=s.z) W.1 (aD:hi<=k.U.length);have X:=NI (z:=s.z) l.H (by rw [i,v]) W.1 (aD:hi<=k.U.length);have U:(List.replicate (hi - lo) s.z).flatten.length=(hi - lo) * o.H:=by rw [mP,i,v]
      have Z:=Rel.put hR hk a4 ho { k with U:=k.U.take lo++List.replicate (hi - lo) s.z++k.U.drop hi } o (w':=w.setRow b (a.toList.take (lo * o.H)++(madeCells z.cells ((hi - lo) * z.cells.size)).toList++a.toList.drop (lo * o.H+(madeCells z.cells ((hi - lo) * z.cells.size)).toList.length)).toArray)
       ⟨rfl,rfl,rfl,by simp,λq _ hq=>setRow_other w b q _ (λe=>hq (by rw [e];simp [Ow.block,G,Value.ownBlock]))⟩ (λb' a8=>.inl a8) (.inl rfl) (by rw [p];exact l.af) l.ty l.Y
       (λd hd=>by
        simp only [aX] at hd;rcases hd with (hd|hd)|hd
        .exact l.H d (dC hd)
        .rw [lI hd,i,v]
        .exact l.H d (fH hd))
       (J.take (lo * o.H)++(madeCells z.cells ((hi - lo) * z.cells.size)).toList++J.drop (lo * o.H+(madeCells z.cells ((hi - lo) * z.cells.size)).toList.length))
       ⟨by simp only [aH,c8,jG,f,p];omega,.inr ⟨b,I,_,by rw [p];simpa [Q] using G,a7,setRow_heap w b a _ k.ty _ hg,by rw [p];exact V,a6,by simp only [n8,aH,c8,jG,f,gJ];omega,by
        simp only [p];rw [<- C];apply fL;intro j;simp only [cF,i6,c8,cT,gJ];by_cases hj:j<k.U.length * o.H
        .rw [if_pos hj];have m1:min (lo * o.H) a.size=lo * o.H:=aD;have m2:min (lo * o.H) (min (k.U.length * o.H) a.size)=lo * o.H:=aD;rw [m1,m2];split
         .first|rfl|rw [if_pos hj]
         .split
          .rfl
          .first|rfl|rw [if_pos aD]
        .rw [if_neg hj];have m2:min (lo * o.H) (min (k.U.length * o.H) a.size)=lo * o.H:=aD;rw [m2,if_neg aD,if_neg aD,if_neg aD]⟩⟩
       (λu hu=>by
        simp only [aX] at hu;rcases hu with (hu|hu)|hu
        .exact O u (dC hu)
        .exact h1 u hu
        .exact O u (fH hu))
       ⟨by simp only [X,aH,c8,jG,f,U,c.len],λj u d hu hd=>by
        simp only [X] at hd;have F:k.U.flatten.length=J.length:=c.len.symm;simp only [i6,c8,cF,cT,F,f,U] at hu hd;have m1:min (lo * o.H) J.length=lo * o.H:=aD;rw [m1] at hu hd;split at hd
        .rename_i hj1;rw [if_pos hj1] at hu;try rw [if_pos hj1] at hu
         try rw [if_pos hj1] at hd
         exact c.Z j u d hu hd
        .rename_i hj1;rw [if_neg hj1] at hu;split at hd
         .rename_i hj2;rw [if_pos hj2] at hu;exact hr.Z _ u d hu hd
         .rename_i hj2;rw [if_neg hj2] at hu;exact c.Z _ u d hu hd⟩
      simp only [H9 o id ho] at Z;exact ⟨_,_,σ,n,Z.1,.tup [] [] rfl (λj u d hu hd=>by simp at hu),Z.2.1,Z.2.2⟩
  .exact Y.elim
 .exact Y.elim
theorem Pz {t:TypeId}{A B:Value}{x i:D}(G:Rel M0 H σ w)(E:RepV (dJ M0 H σ) σ H.F w A x)(F:RepV (dJ M0 H σ) σ H.F w B i)(c:(uM P t x i H).cond) :
  (uM P t x i H).X/\OpS P (Instr.index t A B) M0 H σ w (uM P t x i H).val (uM P t x i H).heap:=by
 unfold uM at *;split at c
 .rename_i s J n;split at c
  .rename_i l;obtain ⟨y,Q⟩:=c;cases E;cases F
   obtain ⟨q,rfl⟩:=e9 y;have hq:q<s.size:=aD;have hq':q<s.data.size:=hq;refine ⟨trivial,.pure G (v:=.int .u8 ((s.data[q]'hq').toNat:Int)) ?_ ?_⟩
   .have:s[q]?=some (s[q]'hq):=by simp [hq]
    simp [Instr.index,asIntOf,run_underlying l,this];rfl
   .have e:s.data[q]?=some (s.data[q]'hq'):=bM hq';simp only [Int.toNat_natCast,e,Option.getD_some];exact .int _ _
  .exact c.elim
 .rename_i V J n;split at c
  .rename_i I S g e M l;split at c
   .rename_i m;obtain ⟨⟨y,Q⟩,O,u⟩:=c;cases E;cases F
    rename_i z K T L;obtain ⟨q,rfl⟩:=e9 y;simp only [Int.toNat_natCast] at u ⊢;obtain ⟨U,R,d,r,j⟩:=Qf M;rw [l] at d;simp at d;obtain ⟨rfl,rfl⟩:=d;have N:=U5 (w:=w) m;have hq:q<z.length:=aD;have o:q<g:=aD;refine ⟨trivial,.pure G (v:=z[q]) ?_ ?_⟩
    .simp [Instr.index,asIntOf,run_underlying l,o,sizeOf,typeInfo,r,j,O,part,N,hq]
    .rw [aA u];exact L q _ _ (aA hq) (aA u)
   .exact c.elim
  .exact c.elim
 .exact c.elim
end
end Go.Abs
end
section
namespace Go.Abs
section
variable {P:Program} {M0:Nat→Prop} {H:AHeap} {σ:Nat→Option Ow} {w:World}
def WK (P:Program)(x:Sem Next)(M0:Nat->Prop)(H:AHeap)(σ:Nat->Option Ow)(w:World)(d:D)(H':AHeap):Prop :=
 ∃ v w' σ',(x.run P w=.ok (.value v) w'\/(x.run P w=.ok .skip w'/\v=undef))/\Rel M0 H' σ' w'/\RepV (dJ M0 H' σ') σ' H'.F w' v d/\Stp σ w σ' w' /\
  Keeps (dJ M0 H σ) σ H.F w (dJ M0 H' σ') σ' H'.F w'
theorem OpS.next {x:Sem Value}{d:D}{H':AHeap}(h:OpS P x M0 H σ w d H'):WK P (do Pure.pure (Next.value (<- x))) M0 H σ w d H':=by
 obtain ⟨v,a,σ',b,g,f,e,c⟩:=h;exact ⟨v,a,σ',.inl (by simp [b]),g,f,e,c⟩
theorem OpU.next {x:Sem Unit}{H':AHeap}(h:OpU P x M0 H σ w H'):WK P (do x;Pure.pure Next.skip) M0 H σ w .junk H':=by
 obtain ⟨b,σ',c,f,e,d⟩:=h;exact ⟨undef,b,σ',.inr ⟨by simp [c],rfl⟩,f,.junk _,e,d⟩
def EnvR (M:Nat->Prop)(σ:Nat->Option Ow)(N:Nat->Prop)(w:World)(ρ:Operand->Value)(e:Nat->D):Prop :=
 (∀ t,RepV M σ N w (ρ (.tmp t)) (e t))/\(∀ v,ρ (.const v)=v)/\∀ f,ρ (.func f)=.func (.func f) #[] #[]
theorem EnvR.ev {M:Nat->Prop}{N:Nat->Prop}{ρ:Operand->Value}{e:Nat->D}(h:EnvR M σ N w ρ e)(x:Operand):RepV M σ N w (ρ x) (fC e x):=by
 cases x with
 | tmp t=>exact h.1 t
 | const v=>rw [h.2.1];exact Je v
 | func f=>rw [h.2.2];exact .fn f [] [] rfl (λj u d hu=>by simp at hu)
 | global g=>exact .junk _
theorem EnvR.c9 {M:Nat->Prop}{N:Nat->Prop}{ρ:Operand->Value}{e:Nat->D}(h:EnvR M σ N w ρ e)(a:List (Nat × Operand)) :
  Parts M σ N w (a.map λp=>(p.1,ρ p.2)) (a.map λp=>(p.1,fC e p.2)):=by
 refine ⟨by simp [Function.comp_def],λj v d hv hd=>?_⟩;simp only [Fd,aM,bV] at hv hd;obtain ⟨p,c,rfl⟩:=hv;obtain ⟨q,b,rfl⟩:=hd;rw [c] at b;cases b
 exact h.ev p.2
theorem Uo (m:Rel M0 H σ w)(a:Nat):Rel M0 (H.aP a) σ w/\Keeps (dJ M0 H σ) σ H.F w (dJ M0 (H.aP a) σ) σ (H.aP a).F w/\(H.aP a).F=H.F /\
  ∀ i,((H.aP a).get i).map (·.U)=(H.get i).map (·.U)/\(∀ k,H.get i=some k->k.fz=true\/i=a->∃ k',(H.aP a).get i=some k'/\k'.fz=true/\k'.U=k.U):=by
 unfold AHeap.aP;cases r:H.get a with
 | none =>
  refine ⟨m,.refl _ _ _ _,rfl,λi=>⟨rfl,λk hik h=>?_⟩⟩;grind
 | some k =>
  simp only;have c:∀ i,((H.put a { k with fz:=true }).get i).map (·.U)=(H.get i).map (·.U)/\(∀ k0,H.get i=some k0->k0.fz=true\/i=a->∃ k',(H.put a { k with fz:=true }).get i=some k'/\k'.fz=true/\k'.U=k0.U):=by
   intro i;by_cases s:i=a
   .subst s;refine ⟨by simp [AHeap.put,r],λk0 h0 _=>⟨{ k with fz:=true },by simp [AHeap.put],rfl,?_⟩⟩;grind
   .refine ⟨by simp [AHeap.put,s],λk0 h0 h=>?_⟩;rcases h with h|h
    .exact ⟨k0,by simp [AHeap.put,s,h0],h,rfl⟩
    grind
  by_cases v:k.fz=false
  .obtain ⟨o,u,l⟩:=m.ah a k r;obtain ⟨x,d,z,e⟩:=l.row;have p:=Rel.put m (w':=w) r v u { k with fz:=true } o ⟨rfl,rfl,rfl,aZ _,λ_ _ _=>rfl⟩ (λb hb=>.inl hb) (.inl rfl) l.af l.ty l.Y l.H x d z e;simp only [H9 o a u] at p;exact ⟨p.1,p.2.2,rfl,c⟩
  .have y:H.put a { k with fz:=true } = H:=by
    have f:k.fz=true:=by simpa using v
    have q:({ k with fz:=true }:Blk)=k:=by cases k;simp at f;subst f;rfl
    obtain ⟨n,A,g⟩:=H;simp only [AHeap.put,q,AHeap.mk.injEq,true_and];grind
   rw [y] at c ⊢;exact ⟨m,.refl _ _ _ _,rfl,c⟩
theorem fY (a:List Nat):∀ {H:AHeap},Rel M0 H σ w->Rel M0 (fN a H) σ w/\Keeps (dJ M0 H σ) σ H.F w (dJ M0 (fN a H) σ) σ (fN a H).F w/\(fN a H).F=H.F /\
  ∀ i,((fN a H).get i).map (·.U)=(H.get i).map (·.U)/\(∀ k,H.get i=some k->k.fz=true\/i∈a->∃ k',(fN a H).get i=some k'/\k'.fz=true/\k'.U=k.U):=by
 induction a with
 | nil=>intro H o;exact ⟨o,.refl _ _ _ _,rfl,λi=>⟨rfl,λk e h=>⟨k,e,by simpa using h,rfl⟩⟩⟩
 | cons id a ih =>
  intro H o;obtain ⟨v,u,t,l⟩:=Uo o id;obtain ⟨z,y,x,m⟩:=ih v;refine ⟨z,u.trans y,x.trans t,λi=>⟨(m i).1.trans (l i).1,λk e h=>?_⟩⟩;rcases h with h|h
  .obtain ⟨c,r,q,p⟩:=(l i).2 k e (.inl h);obtain ⟨b,j,g,f⟩:=(m i).2 c r (.inl q);exact ⟨b,j,g,f.trans p⟩
  .rcases aV.1 h with rfl|h
   .obtain ⟨c,r,q,p⟩:=(l i).2 k e (.inr rfl);obtain ⟨b,j,g,f⟩:=(m i).2 c r (.inl q);exact ⟨b,j,g,f.trans p⟩
   .have n:=(l i).1;rw [e] at n;cases d:(H.aP id).get i with
    | none=>rw [d] at n;cases n
    | some c =>
     obtain ⟨b,j,g,f⟩:=(m i).2 c d (.inr h);refine ⟨b,j,g,f.trans ?_⟩;simp_all
theorem IP {v:Value}{e n:Nat}{k:Blk}(x:Rel M0 H σ w)(C:RepV (dJ M0 H σ) σ H.F w v (.own e n))(F:H.get e=some k)(N:k.fz=true)(L:k.U.length=n) :
  RepV (dJ M0 H σ) σ H.F w v (.list k.U):=by
 obtain ⟨o,q,l⟩:=x.ah e k F;obtain ⟨A,b,m,c⟩:=l.row;cases C
 rename_i Q O h;rcases h o q with R|⟨P,rfl⟩
 .have:=l.af;omega
 .rcases b.2 with ⟨f,I⟩|⟨g,y,J,a,_,_,r,s,_⟩
  .rw [f,bT I];exact .listN
  .have d:o.block=some g:=by simp [Ow.block,a,Value.ownBlock]
   rw [a];refine .list ⟨g,0,none⟩ y o.H A k.U r s l.H c.len m (λj u hu=>⟨?_,b.cells (g:=g) (by simpa [Ow.block] using d) j u hu⟩) c.Z;rintro (D|⟨i,K,B,E,G,p,t⟩)
   .exact (x.lt e o g q d).2 D
   .have M:=x.inj i e B o g p q t d;grind
theorem Ps {M:Nat->Prop}{N:Nat->Prop}{ad:Addr}{g sz:Nat}{es:UE}{a b:Nat}(h:RepV M σ N w (.slice (some ad) es.length g) (.list es))(k:∀ c∈es,c.length=sz)(A:a<=b)(K:b<=es.length) :
  RepV M σ N w (.slice (some (if g=a then ad else ad.add (a * sz))) (b - a) (g - a)) (.list ((es.take b).drop a)):=by
 rcases t6 h with ⟨F,_⟩|⟨G,v,z,y,E,i,o,l,B,J,s⟩
 .cases F
 .cases E
  have n:((es.take b).drop a).length=b - a:=by simp;omega
  have m:∀ c∈(es.take b).drop a,c.length=sz:=λc hc=>k c (dC (fH hc));have f:((es.take b).drop a).flatten=(es.flatten.take (b * sz)).drop (a * sz):=by
   rw [s6 _ a (λc hc=>k c (dC hc)),s5 _ b k]
  by_cases q:g=a
  .have r:b=a:=aD;subst r;have t:(es.take b).drop b=[]:=g8 (by simp;omega);have:=RepV.list (M:=M) (σ:=σ) (N:=N) (w:=w) ad (b - b) 0 [] [] dB dB dB rfl dB (λj u e=>by simp at e) (λj u d e=>by simp at e);grind
  .rw [if_neg q];have I:=RepV.list (M:=M) (σ:=σ) (N:=N) (w:=w) (ad.add (a * sz)) (g - a) sz ((y.take (b * sz)).drop (a * sz)) ((es.take b).drop a) (by rw [n];omega) aD m
    (by rw [f];simp [i.len]) (λu e=>o u (dC (fH e))) (λj u e=>by
     rw [cT,cF] at e;split at e
     .obtain ⟨O,L⟩:=l _ u e;rw [iL,DW];grind
     .cases e) (λj u d e p=>by
     rw [f,cT,cF] at p;rw [cT,cF] at e;split at e
     .rename_i C;rw [if_pos C] at p;exact i.Z _ u d e p
     .cases e)
   grind
theorem RC {v:Value}{i n f m:Nat}{k:Blk}(x:Rel M0 H σ w)(z:RepV (dJ M0 H σ) σ H.F w v (.win i n f m))(t:H.get i=some k)(A:k.fz=true)(s:k.U.length=n) :
  RepV (dJ M0 H σ) σ H.F w v (.list ((k.U.take m).drop f)):=by
 obtain ⟨o,D,l⟩:=x.ah i k t;have r:=l.af;cases z
 rename_i E B j h;have q:Wy o v n f m:=by
  grind
 have a:RepV (dJ M0 H σ) σ H.F w o.val (.list k.U):=by
  refine IP (n:=n) x (.own o.val i n B ?_ λo' ho'=>?_) t A s
  .rcases q with ⟨g,_⟩|⟨b,p,g,_⟩<;>rw [g]<;>rfl
  grind
 rcases q with ⟨g,y,C⟩|⟨b,p,g,u,y⟩
 .subst y C;simpa using RepV.listN
 .rw [g,<- s] at a;have:=Ps a (λc u=>l.H c u) j.1 aD;have e:(Addr.add ⟨b,0,none⟩ (f * o.H))=⟨b,f * o.H,none⟩:=by simp [jI]
  grind
theorem qT {H H':AHeap}(h:∀ i,(H'.get i).map (·.U)=(H.get i).map (·.U))(d:D):fI H' d=fI H d:=by
 cases d<;>try rfl
 .rename_i a n;simp only [fI];grind
 .rename_i a n b c;simp only [fI];grind
theorem nA {v:Value}{d:D}(h:Rel M0 H σ w)(a:RepV (dJ M0 H σ) σ H.F w v d)(g:∀ i∈lQ d,∀ k,H.get i=some k->k.fz=true) :
  RepV (dJ M0 H σ) σ H.F w v (fI H d):=by
 cases d<;>try exact a
 .rename_i c n;simp only [fI];cases e:H.get c with
  | none=>exact a
  | some k =>
   simp only;split
   .rename_i f;exact IP h a e (g c (by simp [lQ]) k e) f
   .exact a
 .rename_i c n j l;simp only [fI];cases e:H.get c with
  | none=>exact a
  | some k =>
   simp only;split
   .rename_i f;exact RC h a e (g c (by simp [lQ]) k e) f
   .exact a
theorem mZ {v:Value}{d:D}(t:Rel M0 H σ w)(e:RepV (dJ M0 H σ) σ H.F w v d)(a:List Nat)(h:∀ i∈dW d,i∈a) :
  RepV (dJ M0 (fN a H) σ) σ (fN a H).F w v (iU H d):=by
 obtain ⟨o,z,A,m⟩:=fY a t;have b:=e.q z;have c:∀ i∈a,∀ k,(fN a H).get i=some k->k.fz=true:=λi h k hk=>by
  have l:=(m i).1;rw [hk] at l;cases g:H.get i with
  | none=>rw [g] at l;cases l
  | some k0 =>
   grind
 cases d with
 | agg cs =>
  cases b
  rename_i p f s r;refine .agg p _ (eQ s) f λj u x hu e=>?_;rw [aM,bV] at e;obtain ⟨y,q,rfl⟩:=e;rw [<- qT (λi=>(m i).1) y];refine nA o (r j u y hu q) λi hii k hk=>c i (h i ?_) k hk;simp only [dW,bK];grind
 | _ =>
  simp only [iU];rw [<- qT (λi=>(m i).1)];exact nA o b λi hii k hk=>c i (h i hii) k hk
theorem RV {md:Nat->Bool}{v:Value}{d:D}(e:Rel M0 H σ w)(c:RepV (dJ M0 H σ) σ H.F w v d)(a:List Nat)(b:∀ i∈Nn md d,i∈a) :
  RepV (dJ M0 (fN a H) σ) σ (fN a H).F w v (S2 md H d):=by
 unfold S2;unfold Nn at b;split
 .exact c.q (fY a e).2.1
 .rename_i h;rw [if_neg h] at b;exact mZ e c a b
theorem FL {x:Operand}(h:jD x=true):x=.const (.slice none 0 0):=by grind [jD]
theorem If {nid:Nat}(B:¬ H.F nid){md:Nat->Bool}{e:Nat->D}{o:Oper}{ρ:Operand->Value}(z:Rel M0 H σ w)(r:EnvR (dJ M0 H σ) σ H.F w ρ e)(h:(GD P nid md e o H).cond) :
  (GD P nid md e o H).X/\WK P (execOp ρ o) M0 H σ w (GD P nid md e o H).val (GD P nid md e o H).heap:=by
 obtain ⟨b4,op,E,b3,b1,b0⟩:=o;unfold GD execOp at *;simp only at h ⊢;cases op<;>try (exact h.elim)
 case move x =>
  simp only at h ⊢;by_cases V:jD x=true
  .rw [if_pos V] at h ⊢;have J:=FL V;subst J;obtain ⟨k,g⟩:=Ll (P:=P) B (x:=(Pure.pure (ρ (.const (.slice none 0 0))):Sem Value)) z (by show Result.ok (ρ _) w=_;rw [r.2.1]) h;obtain ⟨v,T,σ',hr,h3⟩:=g;have U:Result.ok (ρ (.const (.slice none 0 0))) w=Result.ok v T:=hr;injection U with e1 e2;subst e1;subst e2;exact ⟨k,_,_,σ',.inl rfl,h3⟩
  .rw [if_neg V] at h ⊢;exact ⟨trivial,ρ x,w,σ,.inl rfl,z,r.ev x,.refl _ _,.refl _ _ _ _⟩
 case assign x =>
  simp only at h ⊢;by_cases V:jD x=true
  .rw [if_pos V] at h ⊢;have J:=FL V;subst J;obtain ⟨k,g⟩:=Ll (P:=P) B (x:=(Pure.pure (ρ (.const (.slice none 0 0))):Sem Value)) z (by show Result.ok (ρ _) w=_;rw [r.2.1]) h;obtain ⟨v,T,σ',hr,h3⟩:=g;have U:Result.ok (ρ (.const (.slice none 0 0))) w=Result.ok v T:=hr;injection U with e1 e2;subst e1;subst e2;exact ⟨k,_,_,σ',.inl rfl,h3⟩
  .rw [if_neg V] at h ⊢;exact ⟨trivial,ρ x,w,σ,.inl rfl,z,r.ev x,.refl _ _,.refl _ _ _ _⟩
 case pick c a b =>
  obtain ⟨k,g⟩:=Rg z (r.ev c) (r.ev a) (r.ev b) h;exact ⟨k,by simpa using g.next⟩
 case alloc t =>
  obtain ⟨k,g⟩:=Qh (P:=P) B z h;exact ⟨k,g.next⟩
 case box t x =>
  obtain ⟨k,g⟩:=Uv (P:=P) B z (r.ev x) h;exact ⟨k,g.next⟩
 case build t ps =>
  obtain ⟨k,g⟩:=P7 (P:=P) z (r.c9 ps.toList) h;refine ⟨k,?_⟩;have:=g.next;rw [show (List.map (λp=>(p.1,ρ p.2)) ps.toList).toArray=ps.map (λp=>(p.1,ρ p.2)) by rw [<- Array.toList_map]] at this;exact this
 case buildSlice t n ps =>
  obtain ⟨f1,f2,f3,f4⟩:=fY (ps.toList.flatMap λp=>Nn md (fC e p.2)) z;have M:Parts (dJ M0 (fN (ps.toList.flatMap λp=>Nn md (fC e p.2)) H) σ) σ (fN (ps.toList.flatMap λp=>Nn md (fC e p.2)) H).F w
    (ps.toList.map λp=>(p.1,ρ p.2)) (ps.toList.map λp=>(p.1,S2 md H (fC e p.2))):=by
   refine ⟨by simp [Function.comp_def],λj v d S N=>?_⟩;simp only [Fd,aM,bV] at S N;obtain ⟨p,hp,rfl⟩:=S;obtain ⟨q,hq,rfl⟩:=N;rw [hp] at hq;cases hq
   exact RV z (r.ev p.2) _ λi W=>bK.2 ⟨p,aL hp,W⟩
  obtain ⟨k,g⟩:=ET (P:=P) (by rw [f3];exact B) f1 M h;refine ⟨k,?_⟩;have:=g.next;rw [show (List.map (λp=>(p.1,ρ p.2)) ps.toList).toArray=ps.map (λp=>(p.1,ρ p.2)) by rw [<- Array.toList_map]] at this;obtain ⟨v,T,σ',a1,a2,a3,a4,a5⟩:=this;exact ⟨v,T,σ',a1,a2,a3,a4,f2.trans a5⟩
 case load t a =>
  obtain ⟨k,g⟩:=Rp (P:=P) z (r.ev a) h;exact ⟨k,g.next⟩
 case store t a v =>
  have Z:∀ (G:AHeap) (Q R:D),Rel M0 G σ w->Keeps (dJ M0 H σ) σ H.F w (dJ M0 G σ) σ G.F w->RepV (dJ M0 G σ) σ G.F w (ρ a) Q->RepV (dJ M0 G σ) σ G.F w (ρ v) R ->
    (mN P t Q R G).cond->(mN P t Q R G).X/\WK P (do Instr.storeAt t (ρ a) (ρ v);Pure.pure Next.skip) M0 H σ w (mN P t Q R G).val (mN P t Q R G).heap:=by
   intro G Q R a8 a9 a6 a7 F;have g:=N6 (P:=P) a8 a6 a7 F;have X:(mN P t Q R G).X/\(mN P t Q R G).val=.junk:=by
    simp only [mN] at F ⊢;split at F
    .split at F
     .split at F
      .exact ⟨trivial,rfl⟩
      .exact F.elim
     .exact F.elim
    .exact F.elim
   refine ⟨X.1,?_⟩;rw [X.2];obtain ⟨v',T,σ',a1,a2,a3,a4,a5⟩:=g.next;exact ⟨v',T,σ',a1,a2,a3,a4,a9.trans a5⟩
  simp only at h ⊢;by_cases hm:md 1000000=true
  .rw [if_pos hm] at h ⊢;obtain ⟨f1,f2,f3,f4⟩:=fY (dW (fC e v)) z;exact Z _ _ _ f1 f2 ((r.ev a).q f2) (mZ z (r.ev v) _ λi W=>W) h
  .rw [if_neg hm] at h ⊢;exact Z H _ _ z (.refl _ _ _ _) (r.ev a) (r.ev v) h
 case nilCheck x =>
  obtain ⟨a,k,g,h3,h4⟩:=Ij z (r.ev x) h;refine ⟨g,ρ x,w,σ,.inl ?_,by rw [h4];exact z,by rw [h4];exact h3,.refl _ _,by rw [h4];exact .refl _ _ _ _⟩;simp [k]
 case binOp op t x y t' =>
  obtain ⟨k,g⟩:=Us (P:=P) (t:=t) (ox:=x) (oy:=y) z (r.ev x) (r.ev y) h;exact ⟨k,g.next⟩
 case unOp op t x =>
  obtain ⟨k,g⟩:=U0 (P:=P) z (r.ev x) h;exact ⟨k,g.next⟩
 case convert s d x =>
  obtain ⟨k,g⟩:=Kq (P:=P) z (r.ev x) h;exact ⟨k,g.next⟩
 case makeFunc fn first caps =>
  cases fn<;>try (exact h.elim)
  rename_i f;simp only at h ⊢;by_cases X:first.isEmpty=true
  .rw [if_pos X];have:first=#[]:=by simpa using X
   subst this;refine ⟨trivial,⟨.func (.func f) #[] (caps.toList.map ρ).toArray,w,σ,.inl (by simp [Instr.makeFunc];rw [<- Array.toList_map]),z,.fn f _ _ dB (λj u d hu N=>?_),.refl _ _,.refl _ _ _ _⟩⟩;simp only [aM,bV] at hu N;obtain ⟨p,hp,rfl⟩:=hu;obtain ⟨q,hq,rfl⟩:=N;rw [hp] at hq;cases hq
   exact r.ev p
  .rw [if_neg X] at h;exact h.elim
 case makeSlice t l c =>
  obtain ⟨k,g⟩:=Rm (P:=P) B z (r.ev l) (r.ev c) h;exact ⟨k,g.next⟩
 case slice t x lo W mx =>
  cases mx with
  | some m=>exact h.elim
  | none =>
   obtain ⟨k,g⟩:=N9 (P:=P) (vlo:=lo.map ρ) (vhi:=W.map ρ) z (r.ev x) (λv d S N=>by
    cases lo with
    | none=>cases S
    | some o=>cases S;cases N;exact r.ev o) (by cases lo<;>rfl) (λv d S N=>by
    cases W with
    | none=>cases S
    | some o=>cases S;cases N;exact r.ev o) (by cases W<;>rfl) h
   exact ⟨k,g.next⟩
 case fieldAddr t x f =>
  obtain ⟨k,g⟩:=Gu (P:=P) z (r.ev x) h;exact ⟨k,g.next⟩
 case indexAddr t x i =>
  obtain ⟨k,g⟩:=Gr (P:=P) z (r.ev x) (r.ev i) h;exact ⟨k,g.next⟩
 case index t x i =>
  obtain ⟨k,g⟩:=Pz (P:=P) z (r.ev x) (r.ev i) h;exact ⟨k,g.next⟩
 case extract t i =>
  obtain ⟨k,g⟩:=Kl (P:=P) z (r.ev t) h;exact ⟨k,g.next⟩
 case call c =>
  obtain ⟨O,C,ts⟩:=c;cases O<;>try (exact h.elim)
  rename_i b;obtain ⟨C⟩:=C;obtain ⟨ts⟩:=ts;simp only [List.map_toArray,resolve,invoke,WK,Sem.run_bind,Sem.run_pure,Result.andThen_ok] at h ⊢;unfold xX at *;split at h
  .rename_i xd td K;match C,K with
   | [ox],K =>
    cases K
    obtain ⟨k,g⟩:=Uf (P:=P) (ty:=E) z (r.ev ox) h;exact ⟨k,by simpa [WK,builtin] using g.next⟩
  .rename_i xd yd td b2 K;match C,K with
   | [ox,oy],K =>
    cases K
    obtain ⟨k,g⟩:=Kw (P:=P) B (ty:=E) z (r.ev ox) (r.ev oy) h;exact ⟨k,by simpa [WK,builtin] using g.next⟩
  .rename_i xd td K;match C,K with
   | [ox],K =>
    cases K
    obtain ⟨k,g⟩:=P3 (P:=P) (ty:=E) z (r.ev ox) h;exact ⟨k,by simpa [WK,builtin] using g.next⟩
  .rename_i x y J;match C,J with
   | [ox,oy],J =>
    cases J
    obtain ⟨k,g⟩:=Lq (P:=P) (b:=.min) (mx:=false) (t:=E)  rfl z (r.ev ox) (r.ev oy) h;exact ⟨k,by simpa [WK,builtin] using g.next⟩
  .rename_i x y J;match C,J with
   | [ox,oy],J =>
    cases J
    obtain ⟨k,g⟩:=Lq (P:=P) (b:=.max) (mx:=true) (t:=E)  rfl z (r.ev ox) (r.ev oy) h;exact ⟨k,by simpa [WK,builtin] using g.next⟩
  .exact h.elim
end
end Go.Abs
end
section
namespace Go.Abs
def Yc (P:Program)(f:FuncId):Prop:=∃ fn,P.funcs[f]?=some fn/\(fn.name=="runtime.NumGoroutine")=false/\fn.body.isSome=true
def ACalls (P:Program)(f:FuncId)(args:UN)(H:AHeap)(Q:D->AHeap->Prop):Prop :=
 Yc P f/\∀ (M0:Nat->Prop) (σ:Nat->Option Ow) (w:World) (vals:List Value),Rel M0 H σ w->RepL (dJ M0 H σ) σ H.F w vals args ->
  Calls P f vals.toArray w λe w'=>∃ v d H' σ',e=.returned v/\Rel M0 H' σ' w'/\RepV (dJ M0 H' σ') σ' H'.F w' v d/\Stp σ w σ' w' /\
   Keeps (dJ M0 H σ) σ H.F w (dJ M0 H' σ') σ' H'.F w'/\Q d H'
theorem ACalls.mono {P:Program}{f:FuncId}{args:UN}{H:AHeap}{Q Q':D->AHeap->Prop}(h:ACalls P f args H Q)(hq:∀ d H',Q d H'->Q' d H'):ACalls P f args H Q' :=
 ⟨h.1,λM0 σ w vals hR ha=>(h.2 M0 σ w vals hR ha).mono λ_ _ ⟨v,d,H',σ',a,b,c,s,k,q⟩=>⟨v,d,H',σ',a,b,c,s,k,hq _ _ q⟩⟩
def pG (e:Nat->D)(dst:Option Tmp)(v:D):Nat->D :=
 match dst with
 | some d=>λt=>if t=d then v else e t
 | none=>e
structure St (n:Nat) (M0:Nat->Prop) (H:AHeap) (σ:Nat->Option Ow) (w:World) (e:Nat->D) (a:Act):Prop where
 a2:Rel M0 H σ w
 cc:∀ t,RepV (dJ M0 H σ) σ H.F w (a.tmps.getD t undef) (e t)
 defers:a.defers=[]
 size:a.tmps.size=n
section
variable {P:Program} {M0:Nat→Prop} {H:AHeap} {σ:Nat→Option Ow} {w:World} {n:Nat} {e:Nat→D} {a:Act}
theorem St.bc (h:St n M0 H σ w e a):EnvR (dJ M0 H σ) σ H.F w a.eval e:=⟨h.cc,λ_=>rfl,λ_=>rfl⟩
def sF (n:Nat):Option Tmp->Bool
 | some d=>decide (d<n)
 | none=>true
theorem St.put {H':AHeap}{σ':Nat->Option Ow}{w':World}(h:St n M0 H σ w e a)(i:Rel M0 H' σ' w')(g:Keeps (dJ M0 H σ) σ H.F w (dJ M0 H' σ') σ' H'.F w')
  {b:Option Tmp} (l:sF n b=true) {v:Value} {d:D} (j:RepV (dJ M0 H' σ') σ' H'.F w' v d):St n M0 H' σ' w' (pG e b d) (a.put b v):=by
 cases b with
 | none=>exact ⟨i,λt=>(h.cc t).q g,h.defers,h.size⟩
 | some q =>
  have k:q<a.tmps.size:=by rw [h.size];simpa [sF] using l
  refine ⟨i,λt=>?_,h.defers,by simpa [Act.put] using h.size⟩;by_cases f:t=q
  .subst f;simpa [pG,Act.put,k] using j
  .have c:¬ q=t:=λe=>f e.symm;have:=(h.cc t).q g;simpa [pG,Act.put,f,c,Array.getElem?_setIfInBounds] using this
theorem E8 {nid:Nat}{md:Nat->Bool}{e g:Nat->D}{o:Oper}(h:∀ x∈o.op.operands,fC e x=fC g x):GD P nid md e o H=GD P nid md g o H:=by
 obtain ⟨K,q,w,B,u,r⟩:=o;have A:∀ (l:List (Nat × Operand)),(∀ p∈l,fC e p.2=fC g p.2)->(l.map λp=>(p.1,fC e p.2))=l.map λp=>(p.1,fC g p.2):=λl m =>
  bJ λp hp=>by rw [m p hp]
 unfold GD;cases q<;>simp only [Op.operands] at h ⊢<;>first|rfl|skip
 case move x=>rw [h x dB]
 case assign x=>rw [h x dB]
 case pick c a b=>rw [h c dB,h a dB,h b dB]
 case box t x=>rw [h x dB]
 case build t ps =>
  grind
 case buildSlice t n ps =>
  have m:∀ p∈ps.toList,fC e p.2=fC g p.2:=λp hp=>h p.2 (by simpa using ⟨p.1,by simpa using hp⟩);have I:(ps.toList.map λp=>(p.1,S2 md H (fC e p.2)))=ps.toList.map λp=>(p.1,S2 md H (fC g p.2)):=bJ λp hp=>by rw [m p hp]
  have G:(ps.toList.flatMap λp=>Nn md (fC e p.2))=ps.toList.flatMap λp=>Nn md (fC g p.2):=by
   rw [List.flatMap_def,List.flatMap_def,bJ λp hp=>by rw [m p hp]]
  rw [I,G]
 case load t a=>rw [h a dB]
 case store t a v=>rw [h a dB,h v dB]
 case nilCheck x=>rw [h x dB]
 case binOp q t x y t'=>rw [h x dB,h y dB]
 case unOp q t x=>rw [h x dB]
 case convert s d x=>rw [h x dB]
 case makeFunc J first caps =>
  cases J<;>simp only
  have:caps.toList.map (fC e)=caps.toList.map (fC g):=bJ λx hx=>h x (by simp;exact .inr (eQ hx));rw [this]
 case makeSlice t l c=>rw [h l dB,h c dB]
 case slice t x E F C =>
  cases C<;>simp only
  rw [h x dB];cases E<;>cases F<;>simp only [Option.map_none,dM]
  .rename_i y;rw [h y dB]
  .rename_i y;rw [h y dB]
  .rename_i y z;rw [h y dB,h z dB]
 case fieldAddr t x f=>rw [h x dB]
 case indexAddr t x i=>rw [h x dB,h i dB]
 case index t x i=>rw [h x dB,h i dB]
 case extract t i=>rw [h t dB]
 case call c =>
  obtain ⟨j,k,L⟩:=c;cases j<;>simp only
  have:k.toList.map (fC e)=k.toList.map (fC g):=bJ λx hx=>h x (by simpa [Call.operands] using hx);rw [this]
theorem qC {e d:Nat->D}{o:Oper}(h:∀ x∈o.op.operands,fC e x=fC d x):gZ e o=gZ d o:=by
 obtain ⟨n,l,j,k,i,g⟩:=o;unfold gZ;cases l<;>simp only
 rename_i c;obtain ⟨a,b,p⟩:=c;cases a<;>simp only
 rename_i f;have m:fC e f=fC d f:=h f (by simp [Op.operands,Call.operands]);have:b.toList.map (fC e)=b.toList.map (fC d):=bJ λx hx=>h x (by simp [Op.operands,Call.operands];exact .inr (eQ hx));rw [m,this]
/-! ### guards -/
def gD (ops:Array Oper)(e:Nat->D)(j:Nat):Option (Bool × Bool) :=
 match (ops[j]?).bind (·.dst) with
 | some t=>match e t with
  | .bool c=>some (true,c)
  | .opt g (.bool c)=>some (g,c)
  | _=>none
 | none=>none
def Fh (e:Nat->D):Nat->D:=λt=>match e t with | .opt _ d=>d|d=>d
def gE (e:Nat->D)(op:Op):Nat->D :=
 match op with
 | .pick (.tmp c) _ _=>λt=>if t=c then Fh e t else e t
 | .pick _ _ _=>e
 | _=>Fh e
def gO (op:Op):List Operand :=
 match op with
 | .pick c _ _=>[c]
 | op=>op.operands.toList
theorem Y1 {a:Op}{x:Operand}(h:x∈gO a):x∈a.operands:=by
 cases a<;>simp only [gO] at h<;>first|(simpa using h)|(simp only [bG] at h;subst h;simp [Op.operands])
def og (e:Nat->D):Operand->Bool
 | .tmp t=>match e t with
  | .opt g _=>g
  | _=>true
 | _=>true
def UP (e:Nat->D):List Operand->Bool
 | []=>true
 | x :: l=>og e x&&UP e l
theorem W5 {l:List Operand}(h:UP e l=true):∀ x∈l,og e x=true:=by
 induction l with
 | nil=>simp
 | cons a l ih =>
  simp only [UP,aN] at h;grind
theorem L6 (B:St n M0 H σ w e a){ops:Array Oper}{o:Oper}{j:Nat}{b g c:Bool}(z:o.guard=some (j,b))(h:gD ops e j=some (g,c)) :
  Region.wanted o (yielded ops a.tmps)=(g&&(c==b)):=by
 unfold gD at h;cases l:(ops[j]?).bind (·.dst) with
 | none=>simp [l] at h
 | some t =>
  simp only [l] at h;have m:a.tmps.getD t undef=(a.tmps[t]?).getD undef:=dB;have d:=B.cc t;rw [m] at d;have u:∀ s:Bool,(a.tmps[t]?).getD undef=.bool s->yielded ops a.tmps j=some s:=by
   intro s k;cases i:a.tmps[t]? with
   | none=>rw [i] at k;simp [undef] at k
   | some x=>rw [i] at k;simp at k;subst k;simp [yielded,l,i]
  simp only [Region.wanted,z];split at h
  .rename_i C r;cases h
   rw [r] at d;have k:(a.tmps[t]?).getD undef=.bool c:=by generalize (a.tmps[t]?).getD undef=v at d;cases d;rfl
   grind
  .rename_i D C r;cases h
   rw [r] at d;generalize p:(a.tmps[t]?).getD undef=v at d;cases d
   rename_i A q;cases g with
   | true =>
    have:=q rfl;cases this
    grind
   | false =>
    have y:=A rfl;have:yielded ops a.tmps j=none:=by
     cases i:a.tmps[t]? with
     | none=>simp [yielded,l,i]
     | some x=>rw [i] at p;simp at p;rw [y] at p;subst p;simp [yielded,l,i]
    grind
  .cases h
/-! ### one operation -/
def f8 (S:List Nat)(H' H:AHeap):Prop:=∀ i∈S,H'.get i=H.get i
def eJ:D->List Nat
 | .own id _=>[id]
 | .win id _ _ _=>[id]
 | .ptr id _ _ _=>[id]
 | .agg cs=>cs.flatMap lQ
 | _=>[]
def In:Op->Bool
 | .alloc _ | .box .. | .buildSlice .. | .makeSlice ..=>true
 | .call { callee:=.builtin .append,.. }=>true
 | .move x | .assign x=>jD x
 | _=>false
def sD:Op->Bool
 | .load .. | .store .. | .nilCheck _ | .fieldAddr .. | .indexAddr .. | .slice .. | .alloc _ | .box .. | .buildSlice .. | .makeSlice ..=>true
 | .call _=>true
 | .move x | .assign x=>jD x
 | _=>false
def foot (nid:Nat)(e:Nat->D)(o:Op):List Nat :=
 (if In o then [nid] else [])++(if sD o then o.operands.toList.flatMap λx=>eJ (fC e x) else [])
def AHeap.ac (H:AHeap):List (Nat × Blk)->AHeap
 | []=>H
 | p :: l=>AHeap.ac (H.push p.1 p.2) l
def AHeap.ag (H:AHeap):List (Nat × Blk)->AHeap
 | []=>H
 | p :: l=>AHeap.ag (H.put p.1 p.2) l
def qF (P:Program)(md:Nat->Bool)(dr:Option Nat)(nid:Nat)(ops:Array Oper)(e:Nat->D)(o:Oper)(H:AHeap)(K:D->AHeap->List Nat->Prop):Prop :=
  match o.guard with
  | none=>match gZ e o with
    | some (f,args) =>
      match dr with
      | some m=>(∃ r S,(∀ H',f8 S H' H->ACalls P f args H' λv H1=>v=r/\H1=H')/\K r H S) \/
          (Et md o.dst=true/\∃ r S u q,(∀ p∈u,p.1∈S)/\(∀ p∈q,p.1<m/\¬ H.F p.1) /\
            (∀ H',f8 S H' H->(∀ p∈q,p.1<H'.next/\¬ H'.F p.1)->ACalls P f args H' λv H1=>v=r/\H1=(H'.ag u).ac q)/\K r ((H.ag u).ac q) (S++q.map (·.1)))
      | none=>ACalls P f args H λv H1=>K v H1 []
    | none=>(GD P nid md e o H).cond/\((dr=none->(GD P nid md e o H).X)->K (GD P nid md e o H).val (GD P nid md e o H).heap (foot nid e o.op))
  | some (j,b)=>match gD ops e j with
    | some (g,c)=>((g&&(c==b))=true->UP e (gO o.op)=true) /\
      match gZ (gE e o.op) o with
      | some (f,args) =>
        match dr with
        | some _=>∃ r S,((g&&(c==b))=true->∀ H',f8 S H' H->ACalls P f args H' λv H1=>v=r/\H1=H')/\K (.opt (g&&(c==b)) r) H S
        | none=>(∃ r S,((g&&(c==b))=true->∀ H',f8 S H' H->ACalls P f args H' λv H1=>v=r/\H1=H')/\K (.opt (g&&(c==b)) r) H S) \/
          (((g&&(c==b))=true->ACalls P f args H λv H1=>K (.opt true v) H1 [])/\((g&&(c==b))=false->∃ r,K (.opt false r) H []))
      | none=>((g&&(c==b))=true->(GD P nid md (gE e o.op) o H).cond/\(GD P nid md (gE e o.op) o H).heap=H) /\
          ((dr=none->(g&&(c==b))=true->(GD P nid md (gE e o.op) o H).X)->K (.opt (g&&(c==b)) (GD P nid md (gE e o.op) o H).val) H (foot nid (gE e o.op) o.op))
    | none=>False
theorem Cr {o:Oper}{f:FuncId}{args:UN}{ρ:Operand->Value}{e:Nat->D}(C:∀ x∈o.op.operands,RepV (dJ M0 H σ) σ H.F w (ρ x) (fC e x))(a:gZ e o=some (f,args))(T:Yc P f) :
  ∃ vals,(execOp ρ o).run P w=.ok (.enter f vals.toArray) w/\RepL (dJ M0 H σ) σ H.F w vals args:=by
 obtain ⟨V,L,z,K,y,t⟩:=o;unfold gZ at a;cases L<;>simp only at a<;>try (cases a;done)
 rename_i c;obtain ⟨b,I,W⟩:=c;cases b<;>simp only at a<;>try (cases a;done)
 rename_i E;split at a
 .rename_i g G S;simp at a;obtain ⟨rfl,rfl⟩:=a;have i:=C E (by simp [Op.operands,Call.operands]);rw [S] at i;generalize M:ρ E=v at i;cases i
  rename_i J O N;obtain ⟨F,r,n,U⟩:=T;refine ⟨I.toList.map ρ++J,?_,⟨by simp [O],λj u d hu hd=>?_⟩⟩
  .have s:F.body.isNone=false:=by cases R:F.body<;>simp [R] at U ⊢
   have h:Sem.run P program w=.ok P w:=rfl;simp only [execOp,resolve,M,Deferred.ofValue,invoke,callFunc,Sem.run_bind,Sem.run_pure,Result.andThen_ok,h,r,n,s,fA,if_false];simp_all
  .by_cases Q:j<I.size
   .rw [aR (eQ Q)] at hu hd;simp only [aM,bV] at hu hd;obtain ⟨p,B,rfl⟩:=hu;obtain ⟨q,A,rfl⟩:=hd;rw [B] at A;cases A
    exact C p (by simp [Op.operands,Call.operands];exact .inr (by simpa using aL B))
   .rw [bF (by simp;omega)] at hu hd;simp only [aT,gJ] at hu hd;exact N _ u d hu hd
 .cases a
def StepC (P:Program)(ops:Array Oper)(Q:Exit->Act->World->Prop)(o:Oper)(Kc:Act->World->Prop)(a:Act)(w:World):Prop :=
 if Region.wanted o (yielded ops a.tmps) then o.wp P a w Kc Q\/(o.asks P a w/\LetsOut Q) else Kc (a.put o.dst undef) w
theorem BQ {o:Oper}{f:FuncId}{args:UN}{vals:List Value}{c:Act->World->Prop}{Q:Exit->Act->World->Prop}(b:(execOp a.eval o).run P w=.ok (.enter f vals.toArray) w)
  (h:Calls P f vals.toArray w λe w'=>∃ v,e=.returned v/\c (a.put o.dst v) w'):o.wp P a w c Q:=by
 unfold Oper.wp;rw [b,Oper.upon_enter];exact h.mono λe w' ⟨v,g,d⟩=>by subst g;exact d
theorem AQ {md:Nat->Bool}{dr:Option Nat}{nid:Nat}{ops:Array Oper}{o:Oper}{K:D->AHeap->List Nat->Prop}{Q:Exit->Act->World->Prop}
  (h:qF P md dr nid ops e o H K) (s:St n M0 H σ w e a) (hn:¬ H.F nid) (V:sF n o.dst=true) (hm:∀ m,dr=some m->m<=H.next:=by intro _ h;cases h) :
  StepC P ops Q o (λa' w'=>∃ v H' F σ',K v H' F/\St n M0 H' σ' w' (pG e o.dst v) a'/\Stp σ w σ' w'/\Keeps (dJ M0 H σ) σ H.F w (dJ M0 H' σ') σ' H'.F w') a w:=by
 unfold qF at h;unfold StepC;cases hg:o.guard with
 | none =>
  simp only [hg] at h;have hw:Region.wanted o (yielded ops a.tmps)=true:=by simp [Region.wanted,hg]
  rw [if_pos hw]
  left
  cases I:gZ e o with
  | none =>
   simp only [I] at h;obtain ⟨k,v,w',σ',i,N,Y,h5,J⟩:=If (P:=P) hn s.a2 s.bc h.1;unfold Oper.wp;rcases i with i|⟨i,rfl⟩
   .rw [i,Oper.upon_value];exact ⟨_,_,_,σ',h.2 (λ_=>k),s.put N J V Y,h5,J⟩
   .rw [i,Oper.upon_skip];exact ⟨_,_,_,σ',h.2 (λ_=>k),s.put N J V Y,h5,J⟩
  | some fa =>
   obtain ⟨f,args⟩:=fa;simp only [I] at h;have C:∀ Q':D->AHeap->Prop,ACalls P f args H Q'->(∀ v H',Q' v H'->∃ F,K v H' F) ->
     o.wp P a w (λa' w'=>∃ v H' F σ',K v H' F/\St n M0 H' σ' w' (pG e o.dst v) a'/\Stp σ w σ' w'/\Keeps (dJ M0 H σ) σ H.F w (dJ M0 H' σ') σ' H'.F w') Q:=by
    intro Q' hA hQ;obtain ⟨y,z,A⟩:=Cr (P:=P) (λx _=>s.bc.ev x) I hA.1;refine BQ (args:=args) z ((hA.2 M0 σ w y s.a2 A).mono λe' w' ⟨v,d,H',σ',he,X,hv,T,M,hq⟩=>?_);obtain ⟨F,hF⟩:=hQ _ _ hq;exact ⟨v,he,d,H',F,σ',hF,s.put X M V hv,T,M⟩
   cases dr with
   | none=>exact C _ h λv H' M=>⟨[],M⟩
   | some m =>
    rcases h with ⟨r,S,k,i⟩|⟨_,r,S,u,q,hu,hq,k,i⟩
    .exact C _ (k H λ_ _=>rfl) λv H' ⟨e1,G⟩=>⟨S,by rw [e1,G];exact i⟩
    .exact C _ (k H (λ_ _=>rfl) λp hp=>⟨cO (hq p hp).1 (hm m rfl),(hq p hp).2⟩) λv H' ⟨e1,G⟩=>⟨S++q.map (·.1),by rw [e1,G];exact i⟩
 | some jb =>
  obtain ⟨j,b⟩:=jb;simp only [hg] at h;cases U:gD ops e j with
  | none=>simp [U] at h
  | some gc =>
   obtain ⟨g,c⟩:=gc;simp only [U] at h;have hw:=L6 (n:=n) s hg U;rw [hw];generalize hq:(g&&(c==b))=q at h;obtain ⟨a2,h⟩:=h;cases q with
   | false =>
    simp only [fA,if_false];have O:∀ d,St n M0 H σ w (pG e o.dst (.opt false d)) (a.put o.dst undef):=λd =>
     s.put s.a2 (.refl _ _ _ _) V (.opt _ _ _ (λ_=>rfl) (λh=>by cases h))
    cases I:gZ (gE e o.op) o with
    | none =>
     simp only [I] at h;exact ⟨_,H,_,σ,h.2 (λ_ h=>by cases h),O _,.refl _ _,.refl _ _ _ _⟩
    | some fa =>
     obtain ⟨f,args⟩:=fa;simp only [I] at h;have h':∃ r S,K (.opt false r) H S:=by
      cases dr with
      | some _=>obtain ⟨r,S,k,i⟩:=h;exact ⟨r,S,i⟩
      | none =>
       rcases h with ⟨r,S,k,i⟩|⟨k,i⟩
       .exact ⟨r,S,i⟩
       .obtain ⟨r,i⟩:=i trivial;exact ⟨r,[],i⟩
     obtain ⟨r,S,i⟩:=h';exact ⟨_,H,S,σ,i,O _,.refl _ _,.refl _ _ _ _⟩
   | true =>
    simp only [if_true]
    left
    have R:=W5 (a2 rfl);have a1:∀ t,og e (.tmp t)=true->RepV (dJ M0 H σ) σ H.F w (a.eval (.tmp t)) (Fh e t):=by
     intro t i;have k:=s.bc.ev (.tmp t);simp only [fC] at k;simp only [og] at i;simp only [Fh];split
     .rename_i g' d' a3;rw [a3] at k i;generalize a.eval (.tmp t)=v at k;cases k
      rename_i _ k;exact k i
     .exact k
    have hE:∀ x∈o.op.operands,RepV (dJ M0 H σ) σ H.F w (a.eval x) (fC (gE e o.op) x):=by
     intro x hx;have h0:=s.bc.ev x;cases x with
     | tmp t =>
      simp only [fC] at h0 ⊢;by_cases a0:∃ c' x' y',o.op=.pick c' x' y'
      .obtain ⟨c',x',y',L⟩:=a0;rw [L];have a5:=R c' (by simp [gO,L]);cases c' with
       | tmp c' =>
        simp only [gE];split
        .rename_i a4;subst a4;exact a1 _ a5
        .exact h0
       | _=>exact h0
      .have N:gE e o.op=Fh e/\gO o.op=o.op.operands.toList:=by
        cases L:o.op<;>first|exact ⟨rfl,rfl⟩|exact absurd ⟨_,_,_,L⟩ a0
       rw [N.1];exact a1 t (R _ (by rw [N.2];simpa using hx))
     | _=>exact h0
    classical
    let G:Nat->D:=λt=>if (Operand.tmp t)∈o.op.operands then gE e o.op t else .junk
    have W:∀ x∈o.op.operands,fC (gE e o.op) x=fC G x:=by
     intro x hx;cases x with
     | tmp t=>simp [fC,G,hx]
     | _=>rfl
    have a6:EnvR (dJ M0 H σ) σ H.F w a.eval G:=by
     refine ⟨λt=>?_,λ_=>rfl,λ_=>rfl⟩;by_cases ht:(Operand.tmp t)∈o.op.operands
     .have:=hE _ ht;simp only [G,if_pos ht];exact this
     .simp only [G,if_neg ht];exact .junk _
    cases I:gZ (gE e o.op) o with
    | none =>
     simp only [I] at h;obtain ⟨k,i⟩:=h;obtain ⟨E,B⟩:=k trivial;rw [E8 W] at E B i;obtain ⟨k,v,w',σ',Z,N,Y,h5,J⟩:=If (P:=P) hn s.a2 a6 E;rw [B] at N Y J;unfold Oper.wp;rcases Z with Z|⟨Z,rfl⟩
     .rw [Z,Oper.upon_value];exact ⟨_,_,_,σ',i λ_ _=>k,s.put N J V (.opt _ _ _ (λh=>by cases h) λ_=>Y),h5,J⟩
     .rw [Z,Oper.upon_skip];exact ⟨_,_,_,σ',i λ_ _=>k,s.put N J V (.opt _ _ _ (λh=>by cases h) λ_=>Y),h5,J⟩
    | some fa =>
     obtain ⟨f,args⟩:=fa;simp only [I] at h;have h':ACalls P f args H λv H1=>∃ S,K (.opt true v) H1 S:=by
      have hl:(∃ r S,((true:Bool)=true->∀ H',f8 S H' H->ACalls P f args H' λv H1=>v=r/\H1=H')/\K (.opt true r) H S)->ACalls P f args H λv H1=>∃ S,K (.opt true v) H1 S:=by
       rintro ⟨r,S,k,i⟩;exact (k rfl H λ_ _=>rfl).mono λv H1 ⟨e1,G⟩=>⟨S,by rw [e1,G];exact i⟩
      cases dr with
      | some _=>exact hl (eQ h)
      | none =>
       rcases h with h|⟨k,i⟩
       .exact hl (eQ h)
       .exact ACalls.mono (eQ k) λv H1 M=>⟨[],M⟩
     obtain ⟨y,z,A⟩:=Cr (P:=P) hE I h'.1;refine BQ (args:=args) z ((h'.2 M0 σ w y s.a2 A).mono λe' w' ⟨v,d,H',σ',he,X,hv,T,M,S,i⟩=>?_);exact ⟨v,he,_,_,S,σ',i,s.put X M V (.opt _ _ _ (λh=>by cases h) λ_=>hv),T,M⟩
end
end Go.Abs
end
section
namespace Go.Abs
def chk (sp:List (Nat × Nat))(i:Nat)(F:List Nat)(acc:List (Nat × List Nat)):Prop :=
 match sp with
 | []=>True
 | _=>∀ p∈acc,(p.1,i)∈sp->∀ x∈p.2,x∉F
def j9 (P:Program)(md:Nat->Bool)(ops:Array Oper)(sp:List (Nat × Nat))(n0:Nat):Nat->List Oper->List (Nat × List Nat)->(Nat->D)->AHeap->((Nat->D)->AHeap->Prop)->Prop
 | _,[],_,e,H,K=>K e H
 | i,o :: rest,acc,e,H,K=>qF P md (some n0) (n0+i) ops e o H λv H' F=>chk sp i F acc/\j9 P md ops sp n0 (i+1) rest ((i,F) :: acc) (pG e o.dst v) H' K
/-! ### which operations come ahead of which -/
def Qd:List Oper->List Nat->List Nat
 | [],acc=>acc
 | o :: rest,acc=>Qd rest (acc++[o.after.toList.foldl (λs e=>if Region.binds .any e then s ||| 2 ^ e.on ||| acc.getD e.on 0 else s) 0])
def xY:Op->Bool
 | .store .. | .alloc _ | .box .. | .buildSlice .. | .makeSlice ..=>true
 | .call { callee:=.builtin .append,.. } | .call { callee:=.builtin .clear,.. }=>true
 | .move x | .assign x=>jD x
 | _=>false
def GP (md:Nat->Bool)(o:Oper):Bool:=match o.op with
 | .call { callee:=.value _,.. }=>Et md o.dst
 | _=>false
def nO (md:Nat->Bool)(o:Oper):Bool:=xY o.op||GP md o
def Nj (ops:Array Oper)(x y:Oper):Bool:=!(x.apart ops y)
def Jn (md:Nat->Bool)(x y:Oper):Bool:=sD x.op&&sD y.op&&(nO md x||nO md y)
def x7 (md:Nat->Bool)(ops:Array Oper)(sp:List (Nat × Nat)):Bool :=
  let b:=Qd ops.toList []
  (List.range ops.size).all λj=>match ops[j]? with
    | none=>true
    | some y=>(y.after.toList.all λe=>!Region.binds .any e||decide (e.on<j)) &&
      (match y.guard with|none=>true|some (g,_)=>decide (g<ops.size)) &&
      (List.range j).all λi=>match ops[i]? with
        | none=>true
        | some x=>(b.getD j 0).testBit i||(!Nj ops x y&&(!Jn md x y||sp.contains (i,j)))
def NC (ops:Array Oper)(S:Nat->Bool):Prop:=∀ j o,ops[j]?=some o->S j=true->∀ e∈o.after.toList,Region.binds .any e=true->S e.on=true
theorem LH (S:Nat->Bool)(acc:List Nat)(hacc:∀ k i,S k=true->(acc.getD k 0).testBit i=true->S i=true) :
  ∀ (es:List Edge) (s:Nat),(∀ e∈es,Region.binds .any e=true->S e.on=true)->(∀ i,s.testBit i=true->S i=true) ->
   ∀ i,(es.foldl (λs e=>if Region.binds .any e then s ||| 2 ^ e.on ||| acc.getD e.on 0 else s) s).testBit i=true->S i=true
 | [],s,_,hs,i,h=>hs i h
 | e :: es,s,he,hs,i,h=>by
  simp only [rT] at h;refine LH S acc hacc es _ (λe' h'=>he e' (by simp [h'])) (λi hi=>?_) i h;split at hi
  .rename_i hb;have hSe:=he e dB hb;rw [Nat.testBit_or,Nat.testBit_or,cZ,cZ] at hi;rcases hi with (hi|hi)|hi
   .exact hs i hi
   .rw [Nat.testBit_two_pow] at hi;have:e.on=i:=by simpa using hi
    rw [<- this];exact hSe
   .exact hacc e.on i hSe hi
  .exact hs i hi
theorem LU {ops:Array Oper}{S:Nat->Bool}(r:NC ops S):∀ j i,S j=true->((Qd ops.toList []).getD j 0).testBit i=true->S i=true:=by
 have f:∀ (l:List Oper) (a:List Nat),(∀ (k:Nat),(ops.toList.drop a.length)[k]?=l[k]?)->(∀ k i,S k=true->(a.getD k 0).testBit i=true->S i=true) ->
   ∀ j i,S j=true->((Qd l a).getD j 0).testBit i=true->S i=true:=by
  intro l;induction l with
  | nil=>intro a _ b j i d c;exact b j i d c
  | cons o l ih =>
   intro a p b j i d c;refine ih _ (λk=>?_) (λk i hk hi=>?_) j i d c
   .have:=p (k+1);simp only [cT,JI,aH,eZ,rS] at this ⊢;grind
   .rw [List.getD_eq_getElem?_getD] at hi;by_cases m:k<a.length
    .rw [aR m,<- List.getD_eq_getElem?_getD] at hi;grind
    .by_cases n:k=a.length
     .subst n;rw [bF (aZ _),uS] at hi;have q:=p 0;have g:ops[a.length]?=some o:=by simpa using q
      exact LH S a b o.after.toList 0 (λe he c=>r _ o g hk e he c) (λi h=>by simp at h) i hi
     .rw [bF aD,bX (by simp;omega)] at hi;simp at hi
 exact λj i d c=>f ops.toList [] (λk=>by simp) (λk i hk hi=>by simp at hi) j i d c
def gS (p:Nat->Bool):Nat->Option Nat
 | 0=>none
 | n+1=>if p n then some n else gS p n
theorem kJ {p q:Nat->Bool}:∀ (n:Nat),(∀ k,k<n->p k=q k)->gS p n=gS q n
 | 0,_=>rfl
 | n+1,h=>by simp only [gS,h n aD,kJ n (λk hk=>h k aD)]
theorem B8 {p:Nat->Bool}(m:Nat):∀ (n:Nat),m<=n->(∀ k,m<=k->k<n->p k=false)->gS p n=gS p m
 | 0,h,_=>by rw [Nat.le_zero.1 h]
 | n+1,h,hp=>by
  by_cases hm:m=n+1
  .rw [hm]
  .simp only [gS,hp n aD aD,fA,if_false];exact B8 m n aD λk h1 h2=>hp k h1 aD
end Go.Abs
end

/- The abstraction layer, part J: slices of slices and strings; -/
import Derived.Test.YthalajhajpjjeaaGreatZgAB
set_option linter.unusedVariables false
set_option linter.unusedSimpArgs false
section
namespace Go.Abs
section
variable {P:Program} {M0:Nat→Prop} {H:AHeap} {σ:Nat→Option Ow} {w:World}
theorem rK {n:Nat}:∀ (es:List (List D)) (i:Nat),(∀ c∈es,c.length=n)->(es.take i).flatten=es.flatten.take (i * n)
 | [],i,_=>by simp
 | e :: es,0,_=>by simp
 | e :: es,i+1,hl=>by
  have he:=hl e bW
  simp only [s4,eU,rK es i (λc hc=>hl c (by simp [hc])),Ag,Nat.add_mul,he]
  rw [aG (by omega:e.length<=i * n+1 * n)]
  congr 2;omega
theorem rL {n:Nat}:∀ (es:List (List D)) (i:Nat),(∀ c∈es,c.length=n)->(es.drop i).flatten=es.flatten.drop (i * n)
 | [],i,_=>by simp
 | e :: es,0,_=>by simp
 | e :: es,i+1,hl=>by
  have he:=hl e bW
  simp only [List.drop_succ_cons,eU,rL es i (λc hc=>hl c (by simp [hc])),List.drop_append,Nat.add_mul,he]
  rw [gY (by omega:e.length<=i * n+1 * n)]
  simp only [cZ]
  congr 1;omega
theorem zP {M:Nat->Prop}{N:Nat->Prop}{b:Option Value}{c:Option D}{a n:Int}(h:∀ v x,b=some v->c=some x->RepV M σ N w v x)(e:b.isSome=c.isSome)(d:S9 c a=some n) :
  (b=none/\n=a)\/∃ k,b=some (.int k n):=by
 cases c with
 | none=>cases b with
  | none=>simp [S9] at d;exact .inl ⟨rfl,d.symm⟩
  | some v=>simp at e
 | some x=>cases b with
  | none=>simp at e
  | some v =>
   have:=h v x rfl rfl
   cases x<;>simp [S9] at d
   cases this
   grind
theorem zS {e:TypeId}{t:TypeId}(n:P.underlying t=some (.slice e)){v:TypeInfo}(f:P.info? e=some v)(a:Option Addr)(len d:Nat)(z:len<=d)(p u:Option Value)(l h:Int)
  (A:(p=none/\l=0)\/∃ k,p=some (.int k l)) (B:(u=none/\h=len)\/∃ k,u=some (.int k h)) (y:0<=l) (C:l<=h) (F:h<=len) :
  (Instr.sliceAt t (.slice a len d) p u none).run P w=.ok (.slice (if d=l.toNat then a else a.map (·.add (l.toNat * v.size))) (h.toNat - l.toNat) (d - l.toNat)) w:=by
 have g:h<=(d:Int):=aD
 have o:∀ (x:Nat) (k:IntKind) (i:Int) (j:BoundsCode),0<=i->i<=(x:Int)->(Instr.sliceBound (.int k i) x j).run P w=.ok i.toNat w:=by
  intro x k i j s r
  simp [Instr.sliceBound,asIntOf,s,r]
 rcases A with ⟨rfl,rfl⟩|⟨D,rfl⟩<;>rcases B with ⟨rfl,rfl⟩|⟨E,rfl⟩
 .simp [Instr.sliceAt,Instr.slice,run_underlying n,Instr.sliceBounds,sizeOf,typeInfo,f]
 .simp [Instr.sliceAt,Instr.slice,run_underlying n,Instr.sliceBounds,sizeOf,typeInfo,f,o _ _ _ _ (by omega:(0:Int)<=h) g]
 .simp [Instr.sliceAt,Instr.slice,run_underlying n,Instr.sliceBounds,sizeOf,typeInfo,f,o len _ _ _ y C]
 .have q:l<=(h.toNat:Int):=aD
  simp [Instr.sliceAt,Instr.slice,run_underlying n,Instr.sliceBounds,sizeOf,typeInfo,f,o _ _ _ _ (by omega:(0:Int)<=h) g,o _ _ _ _ y q]
theorem HA {t:TypeId}(c:P.underlying t=some .string)(s:ByteArray)(e m:Option Value)(l h:Int)
  (p:(e=none/\l=0)\/∃ k,e=some (.int k l)) (q:(m=none/\h=s.size)\/∃ k,m=some (.int k h)) (o:0<=l) (r:l<=h) (n:h<=s.size) :
  (Instr.sliceAt t (.string s) e m none).run P w=.ok (.string (s.extract l.toNat h.toNat)) w:=by
 have d:∀ (x:Nat) (k:IntKind) (i:Int) (a:BoundsCode),0<=i->i<=(x:Int)->(Instr.sliceBound (.int k i) x a).run P w=.ok i.toNat w:=by
  intro x k i a j g
  simp [Instr.sliceBound,asIntOf,j,g]
 rcases p with ⟨rfl,rfl⟩|⟨u,rfl⟩<;>rcases q with ⟨rfl,rfl⟩|⟨v,rfl⟩
 .simp [Instr.sliceAt,Instr.slice,run_underlying c,Instr.sliceBounds]
 .simp [Instr.sliceAt,Instr.slice,run_underlying c,Instr.sliceBounds,d _ _ _ _ (by omega:(0:Int)<=h) n]
 .simp [Instr.sliceAt,Instr.slice,run_underlying c,Instr.sliceBounds,d s.size _ _ _ o r]
 .have f:l<=(h.toNat:Int):=aD
  simp [Instr.sliceAt,Instr.slice,run_underlying c,Instr.sliceBounds,d _ _ _ _ (by omega:(0:Int)<=h) n,d _ _ _ _ o f]
theorem LH {t:TypeId}{vx:Value}{x:D}{vlo vhi:Option Value}{V W:Option D}(X:Rel M0 H σ w)(hx:RepV (dA M0 H σ) σ H.al w vx x)
  (S:∀ v x,vlo=some v->V=some x->RepV (dA M0 H σ) σ H.al w v x) (A:vlo.isSome=V.isSome)
  (T:∀ v x,vhi=some v->W=some x->RepV (dA M0 H σ) σ H.al w v x) (C:vhi.isSome=W.isSome) (n:(qD P t x V W H).cond) :
  (qD P t x V W H).fact/\OpS P (Instr.sliceAt t vx vlo vhi none) M0 H σ w (qD P t x V W H).val (qD P t x V W H).heap:=by
 unfold qD at *
 split at n
 .rename_i es
  split at n
  .rename_i s l h hs hl hh
   obtain ⟨F,J,h2,h3⟩:=n
   obtain ⟨f,ti,z,y,hz,B,_,b2,_,_,a9,_⟩:=rI hs
   have R:=zP S A hl
   have K:=zP T C hh
   obtain ⟨a,rfl⟩:=eW F
   obtain ⟨b,rfl⟩:=eW (Int.le_trans F J)
   simp only [Int.toNat_natCast]
   have b7:a<=b:=aD
   have I:b<=es.length:=aD
   refine ⟨trivial,?_⟩
   rcases sJ hx with ⟨rfl,rfl⟩|⟨ad,r,sz,xs,rfl,O,a3,U,a7,hm,p⟩
   .have hrun:=zS (P:=P) (w:=w) f y none 0 0 (bC _) vlo vhi a b R K F J (bX h2)
    simp at I
    subst I
    have:a=0:=aD
    subst this
    refine .pure X hrun ?_
    simpa using RepV.listN
   .have hrun:=zS (P:=P) (w:=w) f y (some ad) es.length r a7 vlo vhi a b R K F J h2
    simp only [Int.toNat_natCast,dQ] at hrun
    have Q:((es.take b).drop a).length=b - a:=by simp;omega
    have Y:es≠[]->sz=s.sz:=λa5=>by
     cases es with
     | nil=>exact absurd rfl a5
     | cons e es=>simp at h3;exact (p e bW).symm.trans h3
    rw [B] at hrun
    refine .pure X hrun ?_
    have a0:∀ c∈(es.take b).drop a,c.length=sz:=λc n=>p c (dB (fE n))
    have E:((es.take b).drop a).flatten=(es.flatten.take (b * sz)).drop (a * sz):=by
     rw [rL _ a (λc n=>p c (dB n)),rK _ b p]
    by_cases a2:r=a
    .have hba:b=a:=aD
     subst hba
     simp only [a2,if_true]
     have q:(es.take b).drop b=[]:=gY (by simp;omega)
     rw [q]
     have:=RepV.list (M:=dA M0 H σ) (σ:=σ) (N:=H.al) (w:=w) ad (b - b) 0 [] [] bW bW bW rfl bW (λj u f=>by simp at f) (λj u d f=>by simp at f)
     simpa using this
    .rw [if_neg a2]
     have hv:=RepV.list (M:=dA M0 H σ) (σ:=σ) (N:=H.al) (w:=w) (ad.add (a * s.sz)) (r - a) sz ((xs.take (b * sz)).drop (a * sz)) ((es.take b).drop a) (by rw [Q];omega) aD a0
      (by rw [E];simp [O.len]) (λu f=>a3 u (dB (fE f))) (λj u f=>by
       rw [cD,b5] at f
       split at f
       .obtain ⟨h5,h6⟩:=U _ u f
        rw [iD,CG]
        refine ⟨h5,?_⟩
        rw [<- Y (λe=>by subst e;simp at I;subst I;simp at *)]
        exact h6
       .cases f) (λj u d f hd=>by
       rw [E,cD,b5] at hd
       rw [cD,b5] at f
       split at f
       .rename_i hj;rw [if_pos hj] at hd;exact O.rep _ u d f hd
       .cases f)
     rw [Q] at hv
     exact hv
  .exact n.elim
 .rename_i id m
  split at n
  .rename_i s k l h hs hk hl hh
   obtain ⟨⟨F,J,h2⟩,a1,a8⟩:=n
   obtain ⟨f,ti,z,y,hz,B,_⟩:=rI hs
   have R:=zP S A hl
   have K:=zP T C hh
   obtain ⟨a,rfl⟩:=eW F
   obtain ⟨b,rfl⟩:=eW (Int.le_trans F J)
   simp only [Int.toNat_natCast]
   obtain ⟨o,ho,lz⟩:=X.lies id k hk
   obtain ⟨xs,Z,_,_⟩:=lz.row
   cases hx
   rename_i b0 hN h
   refine ⟨trivial,?_⟩
   rcases h o ho with h'|⟨b8,rfl⟩
   .have:=lz.ver;omega
   .have hso:∀ G,σ id=some G->G=o:=λG i=>by rw [ho] at i;exact (Option.some.inj i).symm
    rcases Z.2 with ⟨q,b1⟩|⟨g,r,b9,L,b6,hg,a6,b4,b3,a4⟩
    .have hrun:=zS (P:=P) (w:=w) f y none 0 0 (bC _) vlo vhi a b R (by rw [(aD:m=0)] at K;exact K) F J aD
     have ha:a=0:=aD
     have hb:b=0:=aD
     subst ha hb
     rw [q]
     refine .pure X (bX hrun) (.win _ id m 0 0 hN rfl ⟨bC _,dY _⟩ λG i=>.inr ⟨?_,.inl ⟨?_,rfl,rfl⟩⟩)
     .rw [hso G i];omega
     .rw [hso G i];exact q
    .have hrun:=zS (P:=P) (w:=w) f y (some ⟨g,0,none⟩) k.es.length r a6 vlo vhi a b R (by rw [a1];exact K) F J aD
     rw [L]
     refine .pure X hrun ?_
     refine .win _ id m a b hN rfl ⟨aD,aD⟩ λG i=>.inr ⟨?_,.inr ⟨g,r,?_,aD,?_⟩⟩
     .rw [hso G i];omega
     .rw [hso G i,L,a1]
     .rw [hso G i,lz.sz,a8,B]
      simp only [Int.toNat_natCast]
      split<;>simp [jE]
  .exact n.elim
 .rename_i s
  split at n
  .rename_i l h f hl hh
   obtain ⟨F,J,h2⟩:=n
   cases hx
   have R:=zP S A hl
   have K:=zP T C hh
   exact ⟨trivial,.pure X (HA f s vlo vhi l h R K F J h2) (.str _)⟩
  .exact n.elim
 .exact n.elim
theorem UV {a:Nat}{k:Blk}(b:H.get a=some k):H.put a k=H:=by
 unfold AHeap.put
 have:(λi=>if i=a then some k else H.get i)=H.get:=by
  grind
 rw [this]
theorem Qm {es:List (List D)}{b a:Nat}{z:List D}(c:b<=a)(d:a<=es.length):(es.take b++List.replicate (a - b) z++es.drop a).length=es.length:=by simp;omega
theorem Ll {n:Nat}{es:List (List D)}{a b:Nat}{z:List D}(d:∀ c∈es,c.length=n)(f:z.length=n)(g:a<=b)(i:b<=es.length) :
  (es.take a++List.replicate (b - a) z++es.drop b).flatten=es.flatten.take (a * n)++(List.replicate (b - a) z).flatten++es.flatten.drop (a * n+(List.replicate (b - a) z).flatten.length):=by
 rw [lZ,lZ,rK es a d,rL es b d,mE,f,<- Nat.add_mul,(aD:a+(b - a)=b)]
theorem Nw {t ty:TypeId}{vx:Value}{x:D}(hR:Rel M0 H σ w)(hx:RepV (dA M0 H σ) σ H.al w vx x)(hc:(uR P t x H).cond) :
  (uR P t x H).fact/\OpS P (Builtin.clear_ #[t] ty #[vx]) M0 H σ w (uR P t x H).val (uR P t x H).heap:=by
 unfold uR at *
 split at hc
 .rename_i id ver lo hi
  split at hc
  .rename_i s k hs hk
   obtain ⟨hfz,hver,hty,hsz⟩:=hc
   obtain ⟨hu,ti,z,hti,hz,hisz,_,hsp,_,hzs,hszl,hszs,hzc⟩:=rI hs
   obtain ⟨o,ho,l⟩:=hR.lies id k hk
   obtain ⟨xs,hrow,hx1,hrep⟩:=l.row
   have hlv:=l.ver
   cases hx
   rename_i hone hN hlh h
   have hw:S3 o vx ver lo hi:=by
    rcases h o ho with h'|⟨_,h2⟩
    .omega
    .exact h2
   have hnone:lo=hi->(k.es.take lo++List.replicate (hi - lo) s.z++k.es.drop hi)=k.es:=λe=>by subst e;simp
   have htup:RepV (dA M0 H σ) σ H.al w (.tuple #[]) (.tup []):=.tup [] [] rfl (λj u d hu hd=>by simp at hu)
   refine ⟨trivial,?_⟩
   have hstay:lo=hi->(Builtin.clear_ #[t] ty #[vx]).run P w=.ok (.tuple #[]) w->OpS P (Builtin.clear_ #[t] ty #[vx]) M0 H σ w (.tup []) (H.put id { k with es:=k.es.take lo++List.replicate (hi - lo) s.z++k.es.drop hi }):=λe hrun=>by
    rw [hnone e,UV hk]
    exact .pure hR hrun htup
   rcases hw with ⟨h2,rfl,h4⟩|⟨b,cap,h2,hcap,rfl⟩
   .exact hstay aD (by simp [Builtin.clear_,run_underlying hu])
   .by_cases he:lo=hi
    .refine hstay he ?_
     subst he
     simp [Builtin.clear_,run_underlying hu]
    .have hcl:cap≠lo:=aD
     rw [if_neg hcl]
     rcases hrow.2 with ⟨hnil,_⟩|⟨g,cap',cur,hval,hb0,hg,hnc,hcm,hcs,htake⟩
     .rw [h2] at hnil;cases hnil
     .rw [h2] at hval
      cases hval
      have hoe:o.esz=s.sz:=l.sz.trans hsz
      have hxl:xs.length=k.es.length * o.esz:=hrep.len.trans (lU k.es l.esz)
      have hcur:k.es.length * o.esz<=cur.size:=by rw [hcs];exact fD _ hnc
      obtain ⟨hr,h1⟩:=qJ (M:=dA M0 H σ) (σ:=σ) (N:=H.al) (w:=w) z (hi - lo) aD (by rw [<- hzs];exact hzc)
      rw [<- hzs] at hr
      have hml:(madeCells z.cells ((hi - lo) * z.cells.size)).toList.length=(hi - lo) * o.esz:=by simp [size_madeCells,hszs,hoe]
      have hms:(madeCells z.cells ((hi - lo) * z.cells.size)).size=(hi - lo) * o.esz:=by rw [<- hml,fP]
      have hmul:lo * o.esz+(hi - lo) * o.esz=hi * o.esz:=by rw [<- Nat.add_mul,(aD:lo+(hi - lo)=hi)]
      have hhle:hi * o.esz<=k.es.length * o.esz:=fD _ aD
      have hst:=run_storeCells_at (P:=P) b (lo * o.esz) k.ty (madeCells z.cells ((hi - lo) * z.cells.size)).toList 0 cur w hg (by rw [hml];omega) h1
      simp only [tA] at hst
      have hzero:∀ w,(zeroValue s.e).run P w=.ok z w:=λw=>by simp [zeroValue,typeInfo,hti,hz]
      obtain ⟨q,hq⟩:∃ q,hi - lo=q+1:=⟨hi - lo - 1,aD⟩
      have hrun:(Builtin.clear_ #[t] ty #[.slice (some ⟨b,lo * o.esz,none⟩) (hi - lo) (cap - lo)]).run P w=.ok (.tuple #[]) (w.setRow b (cur.toList.take (lo * o.esz)++(madeCells z.cells ((hi - lo) * z.cells.size)).toList++cur.toList.drop (lo * o.esz+(madeCells z.cells ((hi - lo) * z.cells.size)).toList.length)).toArray):=by
       rw [hq] at hst ⊢
       simp only [Builtin.clear_]
       simp [run_underlying hu,hzero]
       have hmz:Builtin.zeroCells z.cells (q+1)=madeCells z.cells ((q+1) * z.cells.size):=rfl
       rw [hmz]
       simp at hst
       simp [hst]
      have hes:=Qm (z:=s.z) hlh.1 (aD:hi<=k.es.length)
      have hfl:=Ll (z:=s.z) l.esz (by rw [hszl,hoe]) hlh.1 (aD:hi<=k.es.length)
      have hrl:(List.replicate (hi - lo) s.z).flatten.length=(hi - lo) * o.esz:=by rw [mE,hszl,hoe]
      have hp:=Rel.put hR hk hfz ho { k with es:=k.es.take lo++List.replicate (hi - lo) s.z++k.es.drop hi } o (w':=w.setRow b (cur.toList.take (lo * o.esz)++(madeCells z.cells ((hi - lo) * z.cells.size)).toList++cur.toList.drop (lo * o.esz+(madeCells z.cells ((hi - lo) * z.cells.size)).toList.length)).toArray)
       ⟨rfl,rfl,rfl,by simp,λq _ hq=>setRow_other w b q _ (λe=>hq (by rw [e];simp [Ow.block,h2,Value.ownBlock]))⟩ (λb' hb'=>.inl hb') (.inl rfl) (by rw [hes];exact l.ver) l.ty l.sz
       (λd hd=>by
        simp only [aW] at hd
        rcases hd with (hd|hd)|hd
        .exact l.esz d (dB hd)
        .rw [k7 hd,hszl,hoe]
        .exact l.esz d (fE hd))
       (xs.take (lo * o.esz)++(madeCells z.cells ((hi - lo) * z.cells.size)).toList++xs.drop (lo * o.esz+(madeCells z.cells ((hi - lo) * z.cells.size)).toList.length))
       ⟨by simp only [aL,c5,gG,hml,hes];omega,.inr ⟨b,cap,_,by rw [hes];simpa [hver] using h2,hb0,setRow_heap w b cur _ k.ty _ hg,by rw [hes];exact hnc,hcm,by simp only [nK,aL,c5,gG,hml,fP];omega,by
        simp only [hes]
        rw [<- htake]
        apply gL
        intro j
        simp only [b5,iZ,c5,cD,fP]
        by_cases hj:j<k.es.length * o.esz
        .rw [if_pos hj]
         have m1:min (lo * o.esz) cur.size=lo * o.esz:=aD
         have m2:min (lo * o.esz) (min (k.es.length * o.esz) cur.size)=lo * o.esz:=aD
         rw [m1,m2]
         split
         .first|rfl|rw [if_pos hj]
         .split
          .rfl
          .first|rfl|rw [if_pos aD]
        .rw [if_neg hj]
         have m2:min (lo * o.esz) (min (k.es.length * o.esz) cur.size)=lo * o.esz:=aD
         rw [m2,if_neg aD,if_neg aD,if_neg aD]⟩⟩
       (λu hu=>by
        simp only [aW] at hu
        rcases hu with (hu|hu)|hu
        .exact hx1 u (dB hu)
        .exact h1 u hu
        .exact hx1 u (fE hu))
       ⟨by simp only [hfl,aL,c5,gG,hml,hrl,hrep.len],λj u d hu hd=>by
        simp only [hfl] at hd
        have hflen:k.es.flatten.length=xs.length:=hrep.len.symm
        simp only [iZ,c5,b5,cD,hflen,hml,hrl] at hu hd
        have m1:min (lo * o.esz) xs.length=lo * o.esz:=aD
        rw [m1] at hu hd
        split at hd
        .rename_i hj1
         rw [if_pos hj1] at hu
         try rw [if_pos hj1] at hu
         try rw [if_pos hj1] at hd
         exact hrep.rep j u d hu hd
        .rename_i hj1
         rw [if_neg hj1] at hu
         split at hd
         .rename_i hj2
          rw [if_pos hj2] at hu
          exact hr.rep _ u d hu hd
         .rename_i hj2
          rw [if_neg hj2] at hu
          exact hrep.rep _ u d hu hd⟩
      simp only [Gc o id ho] at hp
      exact ⟨_,_,σ,hrun,hp.1,.tup [] [] rfl (λj u d hu hd=>by simp at hu),hp.2.1,hp.2.2⟩
  .exact hc.elim
 .exact hc.elim
theorem MT {t:TypeId}{A B:Value}{x i:D}(G:Rel M0 H σ w)(E:RepV (dA M0 H σ) σ H.al w A x)(F:RepV (dA M0 H σ) σ H.al w B i)(c:(sY P t x i H).cond) :
  (sY P t x i H).fact/\OpS P (Instr.index t A B) M0 H σ w (sY P t x i H).val (sY P t x i H).heap:=by
 unfold sY at *
 split at c
 .rename_i s J n
  split at c
  .rename_i l
   obtain ⟨y,Q⟩:=c
   cases E;cases F
   obtain ⟨q,rfl⟩:=eW y
   have hq:q<s.size:=aD
   have hq':q<s.data.size:=hq
   refine ⟨trivial,.pure G (v:=.int .u8 ((s.data[q]'hq').toNat:Int)) ?_ ?_⟩
   .have:s[q]?=some (s[q]'hq):=by simp [hq]
    simp [Instr.index,asIntOf,run_underlying l,this]
    rfl
   .have e:s.data[q]?=some (s.data[q]'hq'):=bI hq'
    simp only [Int.toNat_natCast,e,Option.getD_some]
    exact .int _ _
  .exact c.elim
 .rename_i V J n
  split at c
  .rename_i I S g e M l
   split at c
   .rename_i m
    obtain ⟨⟨y,Q⟩,O,u⟩:=c
    cases E;cases F
    rename_i z K T L
    obtain ⟨q,rfl⟩:=eW y
    simp only [Int.toNat_natCast] at u ⊢
    obtain ⟨U,R,d,r,j⟩:=NH M
    rw [l] at d
    simp at d
    obtain ⟨rfl,rfl⟩:=d
    have N:=RT (w:=w) m
    have hq:q<z.length:=aD
    have o:q<g:=aD
    refine ⟨trivial,.pure G (v:=z[q]) ?_ ?_⟩
    .simp [Instr.index,asIntOf,run_underlying l,o,sizeOf,typeInfo,r,j,O,part,N,hq]
    .rw [aA u]
     exact L q _ _ (aA hq) (aA u)
   .exact c.elim
  .exact c.elim
 .exact c.elim
end
end Go.Abs
end
section
namespace Go.Abs
section
variable {P:Program} {M0:Nat→Prop} {H:AHeap} {σ:Nat→Option Ow} {w:World}
def Tg (P:Program)(x:Sem Next)(M0:Nat->Prop)(H:AHeap)(σ:Nat->Option Ow)(w:World)(d:D)(H':AHeap):Prop :=
 ∃ v w' σ',(x.run P w=.ok (.value v) w'\/(x.run P w=.ok .skip w'/\v=undef))/\Rel M0 H' σ' w'/\RepV (dA M0 H' σ') σ' H'.al w' v d/\Stp σ w σ' w' /\
  Keeps (dA M0 H σ) σ H.al w (dA M0 H' σ') σ' H'.al w'
theorem OpS.next {x:Sem Value}{d:D}{H':AHeap}(h:OpS P x M0 H σ w d H'):Tg P (do Pure.pure (Next.value (<- x))) M0 H σ w d H':=by
 obtain ⟨v,a,σ',b,g,f,e,c⟩:=h
 exact ⟨v,a,σ',.inl (by simp [b]),g,f,e,c⟩
theorem OpU.next {x:Sem Unit}{H':AHeap}(h:OpU P x M0 H σ w H'):Tg P (do x;Pure.pure Next.skip) M0 H σ w .junk H':=by
 obtain ⟨b,σ',c,f,e,d⟩:=h
 exact ⟨undef,b,σ',.inr ⟨by simp [c],rfl⟩,f,.junk _,e,d⟩
def EnvR (M:Nat->Prop)(σ:Nat->Option Ow)(N:Nat->Prop)(w:World)(ρ:Operand->Value)(e:Nat->D):Prop :=
 (∀ t,RepV M σ N w (ρ (.tmp t)) (e t))/\(∀ v,ρ (.const v)=v)/\∀ f,ρ (.func f)=.func (.func f) #[] #[]
theorem EnvR.ev {M:Nat->Prop}{N:Nat->Prop}{ρ:Operand->Value}{e:Nat->D}(h:EnvR M σ N w ρ e)(x:Operand):RepV M σ N w (ρ x) (eZ e x):=by
 cases x with
 | tmp t=>exact h.1 t
 | const v=>rw [h.2.1];exact G0 v
 | func f=>rw [h.2.2];exact .fn f [] [] rfl (λj u d hu=>by simp at hu)
 | global g=>exact .junk _
theorem EnvR.parts {M:Nat->Prop}{N:Nat->Prop}{ρ:Operand->Value}{e:Nat->D}(h:EnvR M σ N w ρ e)(a:List (Nat × Operand)) :
  Parts M σ N w (a.map λp=>(p.1,ρ p.2)) (a.map λp=>(p.1,eZ e p.2)):=by
 refine ⟨by simp [Function.comp_def],λj v d hv hd=>?_⟩
 simp only [List.map_map,aN,bR] at hv hd
 obtain ⟨p,c,rfl⟩:=hv
 obtain ⟨q,b,rfl⟩:=hd
 rw [c] at b;cases b
 exact h.ev p.2
theorem Rk (m:Rel M0 H σ w)(a:Nat):Rel M0 (H.frz a) σ w/\Keeps (dA M0 H σ) σ H.al w (dA M0 (H.frz a) σ) σ (H.frz a).al w/\(H.frz a).al=H.al /\
  ∀ i,((H.frz a).get i).map (·.es)=(H.get i).map (·.es)/\(∀ k,H.get i=some k->k.fz=true\/i=a->∃ k',(H.frz a).get i=some k'/\k'.fz=true/\k'.es=k.es):=by
 unfold AHeap.frz
 cases r:H.get a with
 | none =>
  refine ⟨m,.refl _ _ _ _,rfl,λi=>⟨rfl,λk hik h=>?_⟩⟩
  grind
 | some k =>
  simp only
  have c:∀ i,((H.put a { k with fz:=true }).get i).map (·.es)=(H.get i).map (·.es)/\(∀ k0,H.get i=some k0->k0.fz=true\/i=a->∃ k',(H.put a { k with fz:=true }).get i=some k'/\k'.fz=true/\k'.es=k0.es):=by
   intro i
   by_cases s:i=a
   .subst s
    refine ⟨by simp [AHeap.put,r],λk0 h0 _=>⟨{ k with fz:=true },by simp [AHeap.put],rfl,?_⟩⟩
    grind
   .refine ⟨by simp [AHeap.put,s],λk0 h0 h=>?_⟩
    rcases h with h|h
    .exact ⟨k0,by simp [AHeap.put,s,h0],h,rfl⟩
    grind
  by_cases v:k.fz=false
  .obtain ⟨o,u,l⟩:=m.lies a k r
   obtain ⟨x,d,z,e⟩:=l.row
   have p:=Rel.put m (w':=w) r v u { k with fz:=true } o ⟨rfl,rfl,rfl,bC _,λ_ _ _=>rfl⟩ (λb hb=>.inl hb) (.inl rfl) l.ver l.ty l.sz l.esz x d z e
   simp only [Gc o a u] at p
   exact ⟨p.1,p.2.2,rfl,c⟩
  .have y:H.put a { k with fz:=true } = H:=by
    have f:k.fz=true:=by simpa using v
    have q:({ k with fz:=true }:Blk)=k:=by cases k;simp at f;subst f;rfl
    obtain ⟨n,A,g⟩:=H
    simp only [AHeap.put,q,AHeap.mk.injEq,true_and]
    grind
   rw [y] at c ⊢
   exact ⟨m,.refl _ _ _ _,rfl,c⟩
theorem fX (a:List Nat):∀ {H:AHeap},Rel M0 H σ w->Rel M0 (fJ a H) σ w/\Keeps (dA M0 H σ) σ H.al w (dA M0 (fJ a H) σ) σ (fJ a H).al w/\(fJ a H).al=H.al /\
  ∀ i,((fJ a H).get i).map (·.es)=(H.get i).map (·.es)/\(∀ k,H.get i=some k->k.fz=true\/i∈a->∃ k',(fJ a H).get i=some k'/\k'.fz=true/\k'.es=k.es):=by
 induction a with
 | nil=>intro H o;exact ⟨o,.refl _ _ _ _,rfl,λi=>⟨rfl,λk e h=>⟨k,e,by simpa using h,rfl⟩⟩⟩
 | cons id a ih =>
  intro H o
  obtain ⟨v,u,t,l⟩:=Rk o id
  obtain ⟨z,y,x,m⟩:=ih v
  refine ⟨z,u.trans y,x.trans t,λi=>⟨(m i).1.trans (l i).1,λk e h=>?_⟩⟩
  rcases h with h|h
  .obtain ⟨c,r,q,p⟩:=(l i).2 k e (.inl h)
   obtain ⟨b,j,g,f⟩:=(m i).2 c r (.inl q)
   exact ⟨b,j,g,f.trans p⟩
  .rcases aU.1 h with rfl|h
   .obtain ⟨c,r,q,p⟩:=(l i).2 k e (.inr rfl)
    obtain ⟨b,j,g,f⟩:=(m i).2 c r (.inl q)
    exact ⟨b,j,g,f.trans p⟩
   .have n:=(l i).1
    rw [e] at n
    cases d:(H.frz id).get i with
    | none=>rw [d] at n;cases n
    | some c =>
     obtain ⟨b,j,g,f⟩:=(m i).2 c d (.inr h)
     refine ⟨b,j,g,f.trans ?_⟩
     simp_all
theorem GK {v:Value}{e n:Nat}{k:Blk}(x:Rel M0 H σ w)(C:RepV (dA M0 H σ) σ H.al w v (.own e n))(F:H.get e=some k)(N:k.fz=true)(L:k.es.length=n) :
  RepV (dA M0 H σ) σ H.al w v (.list k.es):=by
 obtain ⟨o,q,l⟩:=x.lies e k F
 obtain ⟨A,b,m,c⟩:=l.row
 cases C
 rename_i Q O h
 rcases h o q with R|⟨P,rfl⟩
 .have:=l.ver;omega
 .rcases b.2 with ⟨f,I⟩|⟨g,y,J,a,_,_,r,s,_⟩
  .rw [f,bP I];exact .listN
  .have d:o.block=some g:=by simp [Ow.block,a,Value.ownBlock]
   rw [a]
   refine .list ⟨g,0,none⟩ y o.esz A k.es r s l.esz c.len m (λj u hu=>⟨?_,b.cells (g:=g) (by simpa [Ow.block] using d) j u hu⟩) c.rep
   rintro (D|⟨i,K,B,E,G,p,t⟩)
   .exact (x.lt e o g q d).2 D
   .have M:=x.inj i e B o g p q t d
    grind
theorem MK {M:Nat->Prop}{N:Nat->Prop}{ad:Addr}{g sz:Nat}{es:List (List D)}{a b:Nat}(h:RepV M σ N w (.slice (some ad) es.length g) (.list es))(k:∀ c∈es,c.length=sz)(A:a<=b)(K:b<=es.length) :
  RepV M σ N w (.slice (some (if g=a then ad else ad.add (a * sz))) (b - a) (g - a)) (.list ((es.take b).drop a)):=by
 rcases sJ h with ⟨F,_⟩|⟨G,v,z,y,E,i,o,l,B,J,s⟩
 .cases F
 .cases E
  have n:((es.take b).drop a).length=b - a:=by simp;omega
  have m:∀ c∈(es.take b).drop a,c.length=sz:=λc hc=>k c (dB (fE hc))
  have f:((es.take b).drop a).flatten=(es.flatten.take (b * sz)).drop (a * sz):=by
   rw [rL _ a (λc hc=>k c (dB hc)),rK _ b k]
  by_cases q:g=a
  .have r:b=a:=aD
   subst r
   have t:(es.take b).drop b=[]:=gY (by simp;omega)
   have:=RepV.list (M:=M) (σ:=σ) (N:=N) (w:=w) ad (b - b) 0 [] [] bW bW bW rfl bW (λj u e=>by simp at e) (λj u d e=>by simp at e)
   grind
  .rw [if_neg q]
   have I:=RepV.list (M:=M) (σ:=σ) (N:=N) (w:=w) (ad.add (a * sz)) (g - a) sz ((y.take (b * sz)).drop (a * sz)) ((es.take b).drop a) (by rw [n];omega) aD m
    (by rw [f];simp [i.len]) (λu e=>o u (dB (fE e))) (λj u e=>by
     rw [cD,b5] at e
     split at e
     .obtain ⟨O,L⟩:=l _ u e
      rw [iD,CG]
      grind
     .cases e) (λj u d e p=>by
     rw [f,cD,b5] at p
     rw [cD,b5] at e
     split at e
     .rename_i C;rw [if_pos C] at p;exact i.rep _ u d e p
     .cases e)
   grind
theorem OX {v:Value}{i n f m:Nat}{k:Blk}(x:Rel M0 H σ w)(z:RepV (dA M0 H σ) σ H.al w v (.win i n f m))(t:H.get i=some k)(A:k.fz=true)(s:k.es.length=n) :
  RepV (dA M0 H σ) σ H.al w v (.list ((k.es.take m).drop f)):=by
 obtain ⟨o,D,l⟩:=x.lies i k t
 have r:=l.ver
 cases z
 rename_i E B j h
 have q:S3 o v n f m:=by
  grind
 have a:RepV (dA M0 H σ) σ H.al w o.val (.list k.es):=by
  refine GK (n:=n) x (.own o.val i n B ?_ λo' ho'=>?_) t A s
  .rcases q with ⟨g,_⟩|⟨b,p,g,_⟩<;>rw [g]<;>rfl
  grind
 rcases q with ⟨g,y,C⟩|⟨b,p,g,u,y⟩
 .subst y C
  simpa using RepV.listN
 .rw [g,<- s] at a
  have:=MK a (λc u=>l.esz c u) j.1 aD
  have e:(Addr.add ⟨b,0,none⟩ (f * o.esz))=⟨b,f * o.esz,none⟩:=by simp [jE]
  grind
theorem pS {H H':AHeap}(h:∀ i,(H'.get i).map (·.es)=(H.get i).map (·.es))(d:D):fG H' d=fG H d:=by
 cases d<;>try rfl
 .rename_i a n
  simp only [fG]
  grind
 .rename_i a n b c
  simp only [fG]
  grind
theorem mL {v:Value}{d:D}(h:Rel M0 H σ w)(a:RepV (dA M0 H σ) σ H.al w v d)(g:∀ i∈lC d,∀ k,H.get i=some k->k.fz=true) :
  RepV (dA M0 H σ) σ H.al w v (fG H d):=by
 cases d<;>try exact a
 .rename_i c n
  simp only [fG]
  cases e:H.get c with
  | none=>exact a
  | some k =>
   simp only
   split
   .rename_i f
    exact GK h a e (g c (by simp [lC]) k e) f
   .exact a
 .rename_i c n j l
  simp only [fG]
  cases e:H.get c with
  | none=>exact a
  | some k =>
   simp only
   split
   .rename_i f
    exact OX h a e (g c (by simp [lC]) k e) f
   .exact a
theorem mK {v:Value}{d:D}(t:Rel M0 H σ w)(e:RepV (dA M0 H σ) σ H.al w v d)(a:List Nat)(h:∀ i∈dV d,i∈a) :
  RepV (dA M0 (fJ a H) σ) σ (fJ a H).al w v (iM H d):=by
 obtain ⟨o,z,A,m⟩:=fX a t
 have b:=e.keep z
 have c:∀ i∈a,∀ k,(fJ a H).get i=some k->k.fz=true:=λi h k hk=>by
  have l:=(m i).1
  rw [hk] at l
  cases g:H.get i with
  | none=>rw [g] at l;cases l
  | some k0 =>
   grind
 cases d with
 | agg cs =>
  cases b
  rename_i p f s r
  refine .agg p _ (bX s) f λj u x hu e=>?_
  rw [aN,bR] at e
  obtain ⟨y,q,rfl⟩:=e
  rw [<- pS (λi=>(m i).1) y]
  refine mL o (r j u y hu q) λi hii k hk=>c i (h i ?_) k hk
  simp only [dV,bT]
  grind
 | _ =>
  simp only [iM]
  rw [<- pS (λi=>(m i).1)]
  exact mL o b λi hii k hk=>c i (h i hii) k hk
theorem Ph {md:Nat->Bool}{v:Value}{d:D}(e:Rel M0 H σ w)(c:RepV (dA M0 H σ) σ H.al w v d)(a:List Nat)(b:∀ i∈KU md d,i∈a) :
  RepV (dA M0 (fJ a H) σ) σ (fJ a H).al w v (Qf md H d):=by
 unfold Qf;unfold KU at b
 split
 .exact c.keep (fX a e).2.1
 .rename_i h;rw [if_neg h] at b;exact mK e c a b
theorem D5 {x:Operand}(h:jB x=true):x=.const (.slice none 0 0):=by grind [jB]
theorem Gi {nid:Nat}(B:¬ H.al nid){md:Nat->Bool}{e:Nat->D}{o:Oper}{ρ:Operand->Value}(z:Rel M0 H σ w)(r:EnvR (dA M0 H σ) σ H.al w ρ e)(h:(EP P nid md e o H).cond) :
  (EP P nid md e o H).fact/\Tg P (execOp ρ o) M0 H σ w (EP P nid md e o H).val (EP P nid md e o H).heap:=by
 obtain ⟨b4,op,E,b3,b1,b0⟩:=o
 unfold EP execOp at *
 simp only at h ⊢
 cases op<;>try (exact h.elim)
 case move x =>
  simp only at h ⊢
  by_cases V:jB x=true
  .rw [if_pos V] at h ⊢
   have J:=D5 V;subst J
   obtain ⟨k,g⟩:=IU (P:=P) B (x:=(Pure.pure (ρ (.const (.slice none 0 0))):Sem Value)) z (by show Result.ok (ρ _) w=_;rw [r.2.1]) h
   obtain ⟨v,T,σ',hr,h3⟩:=g
   have U:Result.ok (ρ (.const (.slice none 0 0))) w=Result.ok v T:=hr
   injection U with e1 e2
   subst e1;subst e2
   exact ⟨k,_,_,σ',.inl rfl,h3⟩
  .rw [if_neg V] at h ⊢
   exact ⟨trivial,ρ x,w,σ,.inl rfl,z,r.ev x,.refl _ _,.refl _ _ _ _⟩
 case assign x =>
  simp only at h ⊢
  by_cases V:jB x=true
  .rw [if_pos V] at h ⊢
   have J:=D5 V;subst J
   obtain ⟨k,g⟩:=IU (P:=P) B (x:=(Pure.pure (ρ (.const (.slice none 0 0))):Sem Value)) z (by show Result.ok (ρ _) w=_;rw [r.2.1]) h
   obtain ⟨v,T,σ',hr,h3⟩:=g
   have U:Result.ok (ρ (.const (.slice none 0 0))) w=Result.ok v T:=hr
   injection U with e1 e2
   subst e1;subst e2
   exact ⟨k,_,_,σ',.inl rfl,h3⟩
  .rw [if_neg V] at h ⊢
   exact ⟨trivial,ρ x,w,σ,.inl rfl,z,r.ev x,.refl _ _,.refl _ _ _ _⟩
 case pick c a b =>
  obtain ⟨k,g⟩:=OB z (r.ev c) (r.ev a) (r.ev b) h
  exact ⟨k,by simpa using g.next⟩
 case alloc t =>
  obtain ⟨k,g⟩:=NJ (P:=P) B z h
  exact ⟨k,g.next⟩
 case box t x =>
  obtain ⟨k,g⟩:=Rq (P:=P) B z (r.ev x) h
  exact ⟨k,g.next⟩
 case build t ps =>
  obtain ⟨k,g⟩:=NB (P:=P) z (r.parts ps.toList) h
  refine ⟨k,?_⟩
  have:=g.next
  rw [show (List.map (λp=>(p.1,ρ p.2)) ps.toList).toArray=ps.map (λp=>(p.1,ρ p.2)) by rw [<- Array.toList_map]] at this
  exact this
 case buildSlice t n ps =>
  obtain ⟨f1,f2,f3,f4⟩:=fX (ps.toList.flatMap λp=>KU md (eZ e p.2)) z
  have M:Parts (dA M0 (fJ (ps.toList.flatMap λp=>KU md (eZ e p.2)) H) σ) σ (fJ (ps.toList.flatMap λp=>KU md (eZ e p.2)) H).al w
    (ps.toList.map λp=>(p.1,ρ p.2)) (ps.toList.map λp=>(p.1,Qf md H (eZ e p.2))):=by
   refine ⟨by simp [Function.comp_def],λj v d S N=>?_⟩
   simp only [List.map_map,aN,bR] at S N
   obtain ⟨p,hp,rfl⟩:=S
   obtain ⟨q,hq,rfl⟩:=N
   rw [hp] at hq;cases hq
   exact Ph z (r.ev p.2) _ λi W=>bT.2 ⟨p,aK hp,W⟩
  obtain ⟨k,g⟩:=Dt (P:=P) (by rw [f3];exact B) f1 M h
  refine ⟨k,?_⟩
  have:=g.next
  rw [show (List.map (λp=>(p.1,ρ p.2)) ps.toList).toArray=ps.map (λp=>(p.1,ρ p.2)) by rw [<- Array.toList_map]] at this
  obtain ⟨v,T,σ',a1,a2,a3,a4,a5⟩:=this
  exact ⟨v,T,σ',a1,a2,a3,a4,f2.trans a5⟩
 case load t a =>
  obtain ⟨k,g⟩:=OJ (P:=P) z (r.ev a) h
  exact ⟨k,g.next⟩
 case store t a v =>
  have Z:∀ (G:AHeap) (Q R:D),Rel M0 G σ w->Keeps (dA M0 H σ) σ H.al w (dA M0 G σ) σ G.al w->RepV (dA M0 G σ) σ G.al w (ρ a) Q->RepV (dA M0 G σ) σ G.al w (ρ v) R ->
    (mC P t Q R G).cond->(mC P t Q R G).fact/\Tg P (do Instr.storeAt t (ρ a) (ρ v);Pure.pure Next.skip) M0 H σ w (mC P t Q R G).val (mC P t Q R G).heap:=by
   intro G Q R a8 a9 a6 a7 F
   have g:=LF (P:=P) a8 a6 a7 F
   have X:(mC P t Q R G).fact/\(mC P t Q R G).val=.junk:=by
    simp only [mC] at F ⊢
    split at F
    .split at F
     .split at F
      .exact ⟨trivial,rfl⟩
      .exact F.elim
     .exact F.elim
    .exact F.elim
   refine ⟨X.1,?_⟩
   rw [X.2]
   obtain ⟨v',T,σ',a1,a2,a3,a4,a5⟩:=g.next
   exact ⟨v',T,σ',a1,a2,a3,a4,a9.trans a5⟩
  simp only at h ⊢
  by_cases hm:md 1000000=true
  .rw [if_pos hm] at h ⊢
   obtain ⟨f1,f2,f3,f4⟩:=fX (dV (eZ e v)) z
   exact Z _ _ _ f1 f2 ((r.ev a).keep f2) (mK z (r.ev v) _ λi W=>W) h
  .rw [if_neg hm] at h ⊢
   exact Z H _ _ z (.refl _ _ _ _) (r.ev a) (r.ev v) h
 case nilCheck x =>
  obtain ⟨a,k,g,h3,h4⟩:=Gk z (r.ev x) h
  refine ⟨g,ρ x,w,σ,.inl ?_,by rw [h4];exact z,by rw [h4];exact h3,.refl _ _,by rw [h4];exact .refl _ _ _ _⟩
  simp [k]
 case binOp op t x y t' =>
  obtain ⟨k,g⟩:=Rn (P:=P) (t:=t) (ox:=x) (oy:=y) z (r.ev x) (r.ev y) h
  exact ⟨k,g.next⟩
 case unOp op t x =>
  obtain ⟨k,g⟩:=RO (P:=P) z (r.ev x) h
  exact ⟨k,g.next⟩
 case convert s d x =>
  obtain ⟨k,g⟩:=Ic (P:=P) z (r.ev x) h
  exact ⟨k,g.next⟩
 case makeFunc fn first caps =>
  cases fn<;>try (exact h.elim)
  rename_i f
  simp only at h ⊢
  by_cases X:first.isEmpty=true
  .rw [if_pos X]
   have:first=#[]:=by simpa using X
   subst this
   refine ⟨trivial,⟨.func (.func f) #[] (caps.toList.map ρ).toArray,w,σ,.inl (by simp [Instr.makeFunc];rw [<- Array.toList_map]),z,.fn f _ _ bW (λj u d hu N=>?_),.refl _ _,.refl _ _ _ _⟩⟩
   simp only [aN,bR] at hu N
   obtain ⟨p,hp,rfl⟩:=hu
   obtain ⟨q,hq,rfl⟩:=N
   rw [hp] at hq;cases hq
   exact r.ev p
  .rw [if_neg X] at h;exact h.elim
 case makeSlice t l c =>
  obtain ⟨k,g⟩:=OI (P:=P) B z (r.ev l) (r.ev c) h
  exact ⟨k,g.next⟩
 case slice t x lo W mx =>
  cases mx with
  | some m=>exact h.elim
  | none =>
   obtain ⟨k,g⟩:=LH (P:=P) (vlo:=lo.map ρ) (vhi:=W.map ρ) z (r.ev x) (λv d S N=>by
    cases lo with
    | none=>cases S
    | some o=>cases S;cases N;exact r.ev o) (by cases lo<;>rfl) (λv d S N=>by
    cases W with
    | none=>cases S
    | some o=>cases S;cases N;exact r.ev o) (by cases W<;>rfl) h
   exact ⟨k,g.next⟩
 case fieldAddr t x f =>
  obtain ⟨k,g⟩:=EF (P:=P) z (r.ev x) h
  exact ⟨k,g.next⟩
 case indexAddr t x i =>
  obtain ⟨k,g⟩:=ED (P:=P) z (r.ev x) (r.ev i) h
  exact ⟨k,g.next⟩
 case index t x i =>
  obtain ⟨k,g⟩:=MT (P:=P) z (r.ev x) (r.ev i) h
  exact ⟨k,g.next⟩
 case extract t i =>
  obtain ⟨k,g⟩:=H7 (P:=P) z (r.ev t) h
  exact ⟨k,g.next⟩
 case call c =>
  obtain ⟨O,C,ts⟩:=c
  cases O<;>try (exact h.elim)
  rename_i b
  obtain ⟨C⟩:=C
  obtain ⟨ts⟩:=ts
  simp only [List.map_toArray,resolve,invoke,Tg,Sem.run_bind,Sem.run_pure,Result.andThen_ok] at h ⊢
  unfold vU at *
  split at h
  .rename_i xd td K
   match C,K with
   | [ox],K =>
    cases K
    obtain ⟨k,g⟩:=Rb (P:=P) (ty:=E) z (r.ev ox) h
    exact ⟨k,by simpa [Tg,builtin] using g.next⟩
  .rename_i xd yd td b2 K
   match C,K with
   | [ox,oy],K =>
    cases K
    obtain ⟨k,g⟩:=Ii (P:=P) B (ty:=E) z (r.ev ox) (r.ev oy) h
    exact ⟨k,by simpa [Tg,builtin] using g.next⟩
  .rename_i xd td K
   match C,K with
   | [ox],K =>
    cases K
    obtain ⟨k,g⟩:=Nw (P:=P) (ty:=E) z (r.ev ox) h
    exact ⟨k,by simpa [Tg,builtin] using g.next⟩
  .rename_i x y J
   match C,J with
   | [ox,oy],J =>
    cases J
    obtain ⟨k,g⟩:=I7 (P:=P) (b:=.min) (mx:=false) (t:=E)  rfl z (r.ev ox) (r.ev oy) h
    exact ⟨k,by simpa [Tg,builtin] using g.next⟩
  .rename_i x y J
   match C,J with
   | [ox,oy],J =>
    cases J
    obtain ⟨k,g⟩:=I7 (P:=P) (b:=.max) (mx:=true) (t:=E)  rfl z (r.ev ox) (r.ev oy) h
    exact ⟨k,by simpa [Tg,builtin] using g.next⟩
  .exact h.elim
end
end Go.Abs
end
section
namespace Go.Abs
def UH (P:Program)(f:FuncId):Prop:=∃ fn,P.funcs[f]?=some fn/\(fn.name=="runtime.NumGoroutine")=false/\fn.body.isSome=true
def ACalls (P:Program)(f:FuncId)(args:List D)(H:AHeap)(Q:D->AHeap->Prop):Prop :=
 UH P f/\∀ (M0:Nat->Prop) (σ:Nat->Option Ow) (w:World) (vals:List Value),Rel M0 H σ w->RepL (dA M0 H σ) σ H.al w vals args ->
  Calls P f vals.toArray w λe w'=>∃ v d H' σ',e=.returned v/\Rel M0 H' σ' w'/\RepV (dA M0 H' σ') σ' H'.al w' v d/\Stp σ w σ' w' /\
   Keeps (dA M0 H σ) σ H.al w (dA M0 H' σ') σ' H'.al w'/\Q d H'
theorem ACalls.mono {P:Program}{f:FuncId}{args:List D}{H:AHeap}{Q Q':D->AHeap->Prop}(h:ACalls P f args H Q)(hq:∀ d H',Q d H'->Q' d H'):ACalls P f args H Q' :=
 ⟨h.1,λM0 σ w vals hR ha=>(h.2 M0 σ w vals hR ha).mono λ_ _ ⟨v,d,H',σ',a,b,c,s,k,q⟩=>⟨v,d,H',σ',a,b,c,s,k,hq _ _ q⟩⟩
def oP (e:Nat->D)(dst:Option Tmp)(v:D):Nat->D :=
 match dst with
 | some d=>λt=>if t=d then v else e t
 | none=>e
structure St (n:Nat) (M0:Nat->Prop) (H:AHeap) (σ:Nat->Option Ow) (w:World) (e:Nat->D) (a:Act):Prop where
 rel:Rel M0 H σ w
 env:∀ t,RepV (dA M0 H σ) σ H.al w (a.tmps.getD t undef) (e t)
 defers:a.defers=[]
 size:a.tmps.size=n
section
variable {P:Program} {M0:Nat→Prop} {H:AHeap} {σ:Nat→Option Ow} {w:World} {n:Nat} {e:Nat→D} {a:Act}
theorem St.envR (h:St n M0 H σ w e a):EnvR (dA M0 H σ) σ H.al w a.eval e:=⟨h.env,λ_=>rfl,λ_=>rfl⟩
def qV (n:Nat):Option Tmp->Bool
 | some d=>decide (d<n)
 | none=>true
theorem St.put {H':AHeap}{σ':Nat->Option Ow}{w':World}(h:St n M0 H σ w e a)(i:Rel M0 H' σ' w')(g:Keeps (dA M0 H σ) σ H.al w (dA M0 H' σ') σ' H'.al w')
  {b:Option Tmp} (l:qV n b=true) {v:Value} {d:D} (j:RepV (dA M0 H' σ') σ' H'.al w' v d):St n M0 H' σ' w' (oP e b d) (a.put b v):=by
 cases b with
 | none=>exact ⟨i,λt=>(h.env t).keep g,h.defers,h.size⟩
 | some q =>
  have k:q<a.tmps.size:=by rw [h.size];simpa [qV] using l
  refine ⟨i,λt=>?_,h.defers,by simpa [Act.put] using h.size⟩
  by_cases f:t=q
  .subst f
   simpa [oP,Act.put,k] using j
  .have c:¬ q=t:=λe=>f e.symm
   have:=(h.env t).keep g
   simpa [oP,Act.put,f,c,Array.getElem?_setIfInBounds] using this
theorem DA {nid:Nat}{md:Nat->Bool}{e g:Nat->D}{o:Oper}(h:∀ x∈o.op.operands,eZ e x=eZ g x):EP P nid md e o H=EP P nid md g o H:=by
 obtain ⟨K,q,w,B,u,r⟩:=o
 have A:∀ (l:List (Nat × Operand)),(∀ p∈l,eZ e p.2=eZ g p.2)->(l.map λp=>(p.1,eZ e p.2))=l.map λp=>(p.1,eZ g p.2):=λl m =>
  bU λp hp=>by rw [m p hp]
 unfold EP
 cases q<;>simp only [Op.operands] at h ⊢<;>first|rfl|skip
 case move x=>rw [h x bW]
 case assign x=>rw [h x bW]
 case pick c a b=>rw [h c bW,h a bW,h b bW]
 case box t x=>rw [h x bW]
 case build t ps =>
  grind
 case buildSlice t n ps =>
  have m:∀ p∈ps.toList,eZ e p.2=eZ g p.2:=λp hp=>h p.2 (by simpa using ⟨p.1,by simpa using hp⟩)
  have I:(ps.toList.map λp=>(p.1,Qf md H (eZ e p.2)))=ps.toList.map λp=>(p.1,Qf md H (eZ g p.2)):=bU λp hp=>by rw [m p hp]
  have G:(ps.toList.flatMap λp=>KU md (eZ e p.2))=ps.toList.flatMap λp=>KU md (eZ g p.2):=by
   rw [List.flatMap_def,List.flatMap_def,bU λp hp=>by rw [m p hp]]
  rw [I,G]
 case load t a=>rw [h a bW]
 case store t a v=>rw [h a bW,h v bW]
 case nilCheck x=>rw [h x bW]
 case binOp q t x y t'=>rw [h x bW,h y bW]
 case unOp q t x=>rw [h x bW]
 case convert s d x=>rw [h x bW]
 case makeFunc J first caps =>
  cases J<;>simp only
  have:caps.toList.map (eZ e)=caps.toList.map (eZ g):=bU λx hx=>h x (by simp;exact .inr (bX hx))
  rw [this]
 case makeSlice t l c=>rw [h l bW,h c bW]
 case slice t x E F C =>
  cases C<;>simp only
  rw [h x bW]
  cases E<;>cases F<;>simp only [Option.map_none,dQ]
  .rename_i y;rw [h y bW]
  .rename_i y;rw [h y bW]
  .rename_i y z;rw [h y bW,h z bW]
 case fieldAddr t x f=>rw [h x bW]
 case indexAddr t x i=>rw [h x bW,h i bW]
 case index t x i=>rw [h x bW,h i bW]
 case extract t i=>rw [h t bW]
 case call c =>
  obtain ⟨j,k,L⟩:=c
  cases j<;>simp only
  have:k.toList.map (eZ e)=k.toList.map (eZ g):=bU λx hx=>h x (by simpa [Call.operands] using hx)
  rw [this]
theorem pF {e d:Nat->D}{o:Oper}(h:∀ x∈o.op.operands,eZ e x=eZ d x):gQ e o=gQ d o:=by
 obtain ⟨n,l,j,k,i,g⟩:=o
 unfold gQ
 cases l<;>simp only
 rename_i c
 obtain ⟨a,b,p⟩:=c
 cases a<;>simp only
 rename_i f
 have m:eZ e f=eZ d f:=h f (by simp [Op.operands,Call.operands])
 have:b.toList.map (eZ e)=b.toList.map (eZ d):=bU λx hx=>h x (by simp [Op.operands,Call.operands];exact .inr (bX hx))
 rw [m,this]
/-! ### guards -/
def gD (ops:Array Oper)(e:Nat->D)(j:Nat):Option (Bool × Bool) :=
 match (ops[j]?).bind (·.dst) with
 | some t=>match e t with
  | .bool c=>some (true,c)
  | .opt g (.bool c)=>some (g,c)
  | _=>none
 | none=>none
def DH (e:Nat->D):Nat->D:=λt=>match e t with | .opt _ d=>d|d=>d
def gE (e:Nat->D)(op:Op):Nat->D :=
 match op with
 | .pick (.tmp c) _ _=>λt=>if t=c then DH e t else e t
 | .pick _ _ _=>e
 | _=>DH e
def gO (op:Op):List Operand :=
 match op with
 | .pick c _ _=>[c]
 | op=>op.operands.toList
theorem Vw {a:Op}{x:Operand}(h:x∈gO a):x∈a.operands:=by
 cases a<;>simp only [gO] at h<;>first|(simpa using h)|(simp only [bL] at h;subst h;simp [Op.operands])
def og (e:Nat->D):Operand->Bool
 | .tmp t=>match e t with
  | .opt g _=>g
  | _=>true
 | _=>true
def RF (e:Nat->D):List Operand->Bool
 | []=>true
 | x :: l=>og e x&&RF e l
theorem Ty {l:List Operand}(h:RF e l=true):∀ x∈l,og e x=true:=by
 induction l with
 | nil=>simp
 | cons a l ih =>
  simp only [RF,aQ] at h
  grind
theorem JM (B:St n M0 H σ w e a){ops:Array Oper}{o:Oper}{j:Nat}{b g c:Bool}(z:o.guard=some (j,b))(h:gD ops e j=some (g,c)) :
  Region.wanted o (yielded ops a.tmps)=(g&&(c==b)):=by
 unfold gD at h
 cases l:(ops[j]?).bind (·.dst) with
 | none=>simp [l] at h
 | some t =>
  simp only [l] at h
  have m:a.tmps.getD t undef=(a.tmps[t]?).getD undef:=bW
  have d:=B.env t
  rw [m] at d
  have u:∀ s:Bool,(a.tmps[t]?).getD undef=.bool s->yielded ops a.tmps j=some s:=by
   intro s k
   cases i:a.tmps[t]? with
   | none=>rw [i] at k;simp [undef] at k
   | some x=>rw [i] at k;simp at k;subst k;simp [yielded,l,i]
  simp only [Region.wanted,z]
  split at h
  .rename_i C r
   cases h
   rw [r] at d
   have k:(a.tmps[t]?).getD undef=.bool c:=by generalize (a.tmps[t]?).getD undef=v at d;cases d;rfl
   grind
  .rename_i D C r
   cases h
   rw [r] at d
   generalize p:(a.tmps[t]?).getD undef=v at d
   cases d
   rename_i A q
   cases g with
   | true =>
    have:=q rfl
    cases this
    grind
   | false =>
    have y:=A rfl
    have:yielded ops a.tmps j=none:=by
     cases i:a.tmps[t]? with
     | none=>simp [yielded,l,i]
     | some x=>rw [i] at p;simp at p;rw [y] at p;subst p;simp [yielded,l,i]
    grind
  .cases h
/-! ### one operation -/
def f6 (S:List Nat)(H' H:AHeap):Prop:=∀ i∈S,H'.get i=H.get i
def eB:D->List Nat
 | .own id _=>[id]
 | .win id _ _ _=>[id]
 | .ptr id _ _ _=>[id]
 | .agg cs=>cs.flatMap lC
 | _=>[]
def Gp:Op->Bool
 | .alloc _ | .box .. | .buildSlice .. | .makeSlice ..=>true
 | .call { callee:=.builtin .append,.. }=>true
 | .move x | .assign x=>jB x
 | _=>false
def qT:Op->Bool
 | .load .. | .store .. | .nilCheck _ | .fieldAddr .. | .indexAddr .. | .slice .. | .alloc _ | .box .. | .buildSlice .. | .makeSlice ..=>true
 | .call _=>true
 | .move x | .assign x=>jB x
 | _=>false
def foot (nid:Nat)(e:Nat->D)(o:Op):List Nat :=
 (if Gp o then [nid] else [])++(if qT o then o.operands.toList.flatMap λx=>eB (eZ e x) else [])
def AHeap.pushs (H:AHeap):List (Nat × Blk)->AHeap
 | []=>H
 | p :: l=>AHeap.pushs (H.push p.1 p.2) l
def AHeap.puts (H:AHeap):List (Nat × Blk)->AHeap
 | []=>H
 | p :: l=>AHeap.puts (H.put p.1 p.2) l
def pI (P:Program)(md:Nat->Bool)(dr:Option Nat)(nid:Nat)(ops:Array Oper)(e:Nat->D)(o:Oper)(H:AHeap)(K:D->AHeap->List Nat->Prop):Prop :=
  match o.guard with
  | none=>match gQ e o with
    | some (f,args) =>
      match dr with
      | some m=>(∃ r S,(∀ H',f6 S H' H->ACalls P f args H' λv H1=>v=r/\H1=H')/\K r H S) \/
          (De md o.dst=true/\∃ r S u q,(∀ p∈u,p.1∈S)/\(∀ p∈q,p.1<m/\¬ H.al p.1) /\
            (∀ H',f6 S H' H->(∀ p∈q,p.1<H'.next/\¬ H'.al p.1)->ACalls P f args H' λv H1=>v=r/\H1=(H'.puts u).pushs q)/\K r ((H.puts u).pushs q) (S++q.map (·.1)))
      | none=>ACalls P f args H λv H1=>K v H1 []
    | none=>(EP P nid md e o H).cond/\((dr=none->(EP P nid md e o H).fact)->K (EP P nid md e o H).val (EP P nid md e o H).heap (foot nid e o.op))
  | some (j,b)=>match gD ops e j with
    | some (g,c)=>((g&&(c==b))=true->RF e (gO o.op)=true) /\
      match gQ (gE e o.op) o with
      | some (f,args) =>
        match dr with
        | some _=>∃ r S,((g&&(c==b))=true->∀ H',f6 S H' H->ACalls P f args H' λv H1=>v=r/\H1=H')/\K (.opt (g&&(c==b)) r) H S
        | none=>(∃ r S,((g&&(c==b))=true->∀ H',f6 S H' H->ACalls P f args H' λv H1=>v=r/\H1=H')/\K (.opt (g&&(c==b)) r) H S) \/
          (((g&&(c==b))=true->ACalls P f args H λv H1=>K (.opt true v) H1 [])/\((g&&(c==b))=false->∃ r,K (.opt false r) H []))
      | none=>((g&&(c==b))=true->(EP P nid md (gE e o.op) o H).cond/\(EP P nid md (gE e o.op) o H).heap=H) /\
          ((dr=none->(g&&(c==b))=true->(EP P nid md (gE e o.op) o H).fact)->K (.opt (g&&(c==b)) (EP P nid md (gE e o.op) o H).val) H (foot nid (gE e o.op) o.op))
    | none=>False
theorem Bm {o:Oper}{f:FuncId}{args:List D}{ρ:Operand->Value}{e:Nat->D}(C:∀ x∈o.op.operands,RepV (dA M0 H σ) σ H.al w (ρ x) (eZ e x))(a:gQ e o=some (f,args))(T:UH P f) :
  ∃ vals,(execOp ρ o).run P w=.ok (.enter f vals.toArray) w/\RepL (dA M0 H σ) σ H.al w vals args:=by
 obtain ⟨V,L,z,K,y,t⟩:=o
 unfold gQ at a
 cases L<;>simp only at a<;>try (cases a;done)
 rename_i c
 obtain ⟨b,I,W⟩:=c
 cases b<;>simp only at a<;>try (cases a;done)
 rename_i E
 split at a
 .rename_i g G S
  simp at a
  obtain ⟨rfl,rfl⟩:=a
  have i:=C E (by simp [Op.operands,Call.operands])
  rw [S] at i
  generalize M:ρ E=v at i
  cases i
  rename_i J O N
  obtain ⟨F,r,n,U⟩:=T
  refine ⟨I.toList.map ρ++J,?_,⟨by simp [O],λj u d hu hd=>?_⟩⟩
  .have s:F.body.isNone=false:=by cases R:F.body<;>simp [R] at U ⊢
   have h:Sem.run P program w=.ok P w:=rfl
   simp only [execOp,resolve,M,Deferred.ofValue,invoke,callFunc,Sem.run_bind,Sem.run_pure,Result.andThen_ok,h,r,n,s,eX,if_false]
   simp_all
  .by_cases Q:j<I.size
   .rw [aS (bX Q)] at hu hd
    simp only [aN,bR] at hu hd
    obtain ⟨p,B,rfl⟩:=hu
    obtain ⟨q,A,rfl⟩:=hd
    rw [B] at A;cases A
    exact C p (by simp [Op.operands,Call.operands];exact .inr (by simpa using aK B))
   .rw [aZ (by simp;omega)] at hu hd
    simp only [aV,fP] at hu hd
    exact N _ u d hu hd
 .cases a
def StepC (P:Program)(ops:Array Oper)(Q:Exit->Act->World->Prop)(o:Oper)(Kc:Act->World->Prop)(a:Act)(w:World):Prop :=
 if Region.wanted o (yielded ops a.tmps) then o.wp P a w Kc Q\/(o.asks P a w/\LetsOut Q) else Kc (a.put o.dst undef) w
theorem AS {o:Oper}{f:FuncId}{args:List D}{vals:List Value}{c:Act->World->Prop}{Q:Exit->Act->World->Prop}(b:(execOp a.eval o).run P w=.ok (.enter f vals.toArray) w)
  (h:Calls P f vals.toArray w λe w'=>∃ v,e=.returned v/\c (a.put o.dst v) w'):o.wp P a w c Q:=by
 unfold Oper.wp
 rw [b,Oper.upon_enter]
 exact h.mono λe w' ⟨v,g,d⟩=>by subst g;exact d
theorem zM {md:Nat->Bool}{dr:Option Nat}{nid:Nat}{ops:Array Oper}{o:Oper}{K:D->AHeap->List Nat->Prop}{Q:Exit->Act->World->Prop}
  (h:pI P md dr nid ops e o H K) (s:St n M0 H σ w e a) (hn:¬ H.al nid) (V:qV n o.dst=true) (hm:∀ m,dr=some m->m<=H.next:=by intro _ h;cases h) :
  StepC P ops Q o (λa' w'=>∃ v H' F σ',K v H' F/\St n M0 H' σ' w' (oP e o.dst v) a'/\Stp σ w σ' w'/\Keeps (dA M0 H σ) σ H.al w (dA M0 H' σ') σ' H'.al w') a w:=by
 unfold pI at h
 unfold StepC
 cases hg:o.guard with
 | none =>
  simp only [hg] at h
  have hw:Region.wanted o (yielded ops a.tmps)=true:=by simp [Region.wanted,hg]
  rw [if_pos hw]
  left
  cases I:gQ e o with
  | none =>
   simp only [I] at h
   obtain ⟨k,v,w',σ',i,N,Y,h5,J⟩:=Gi (P:=P) hn s.rel s.envR h.1
   unfold Oper.wp
   rcases i with i|⟨i,rfl⟩
   .rw [i,Oper.upon_value]
    exact ⟨_,_,_,σ',h.2 (λ_=>k),s.put N J V Y,h5,J⟩
   .rw [i,Oper.upon_skip]
    exact ⟨_,_,_,σ',h.2 (λ_=>k),s.put N J V Y,h5,J⟩
  | some fa =>
   obtain ⟨f,args⟩:=fa
   simp only [I] at h
   have C:∀ Q':D->AHeap->Prop,ACalls P f args H Q'->(∀ v H',Q' v H'->∃ F,K v H' F) ->
     o.wp P a w (λa' w'=>∃ v H' F σ',K v H' F/\St n M0 H' σ' w' (oP e o.dst v) a'/\Stp σ w σ' w'/\Keeps (dA M0 H σ) σ H.al w (dA M0 H' σ') σ' H'.al w') Q:=by
    intro Q' hA hQ
    obtain ⟨y,z,A⟩:=Bm (P:=P) (λx _=>s.envR.ev x) I hA.1
    refine AS (args:=args) z ((hA.2 M0 σ w y s.rel A).mono λe' w' ⟨v,d,H',σ',he,X,hv,T,M,hq⟩=>?_)
    obtain ⟨F,hF⟩:=hQ _ _ hq
    exact ⟨v,he,d,H',F,σ',hF,s.put X M V hv,T,M⟩
   cases dr with
   | none=>exact C _ h λv H' M=>⟨[],M⟩
   | some m =>
    rcases h with ⟨r,S,k,i⟩|⟨_,r,S,u,q,hu,hq,k,i⟩
    .exact C _ (k H λ_ _=>rfl) λv H' ⟨e1,G⟩=>⟨S,by rw [e1,G];exact i⟩
    .exact C _ (k H (λ_ _=>rfl) λp hp=>⟨cC (hq p hp).1 (hm m rfl),(hq p hp).2⟩) λv H' ⟨e1,G⟩=>⟨S++q.map (·.1),by rw [e1,G];exact i⟩
 | some jb =>
  obtain ⟨j,b⟩:=jb
  simp only [hg] at h
  cases U:gD ops e j with
  | none=>simp [U] at h
  | some gc =>
   obtain ⟨g,c⟩:=gc
   simp only [U] at h
   have hw:=JM (n:=n) s hg U
   rw [hw]
   generalize hq:(g&&(c==b))=q at h
   obtain ⟨a2,h⟩:=h
   cases q with
   | false =>
    simp only [eX,if_false]
    have O:∀ d,St n M0 H σ w (oP e o.dst (.opt false d)) (a.put o.dst undef):=λd =>
     s.put s.rel (.refl _ _ _ _) V (.opt _ _ _ (λ_=>rfl) (λh=>by cases h))
    cases I:gQ (gE e o.op) o with
    | none =>
     simp only [I] at h
     exact ⟨_,H,_,σ,h.2 (λ_ h=>by cases h),O _,.refl _ _,.refl _ _ _ _⟩
    | some fa =>
     obtain ⟨f,args⟩:=fa
     simp only [I] at h
     have h':∃ r S,K (.opt false r) H S:=by
      cases dr with
      | some _=>obtain ⟨r,S,k,i⟩:=h;exact ⟨r,S,i⟩
      | none =>
       rcases h with ⟨r,S,k,i⟩|⟨k,i⟩
       .exact ⟨r,S,i⟩
       .obtain ⟨r,i⟩:=i trivial;exact ⟨r,[],i⟩
     obtain ⟨r,S,i⟩:=h'
     exact ⟨_,H,S,σ,i,O _,.refl _ _,.refl _ _ _ _⟩
   | true =>
    simp only [if_true]
    left
    have R:=Ty (a2 rfl)
    have a1:∀ t,og e (.tmp t)=true->RepV (dA M0 H σ) σ H.al w (a.eval (.tmp t)) (DH e t):=by
     intro t i
     have k:=s.envR.ev (.tmp t)
     simp only [eZ] at k
     simp only [og] at i
     simp only [DH]
     split
     .rename_i g' d' a3
      rw [a3] at k i
      generalize a.eval (.tmp t)=v at k
      cases k
      rename_i _ k
      exact k i
     .exact k
    have hE:∀ x∈o.op.operands,RepV (dA M0 H σ) σ H.al w (a.eval x) (eZ (gE e o.op) x):=by
     intro x hx
     have h0:=s.envR.ev x
     cases x with
     | tmp t =>
      simp only [eZ] at h0 ⊢
      by_cases a0:∃ c' x' y',o.op=.pick c' x' y'
      .obtain ⟨c',x',y',L⟩:=a0
       rw [L]
       have a5:=R c' (by simp [gO,L])
       cases c' with
       | tmp c' =>
        simp only [gE]
        split
        .rename_i a4;subst a4;exact a1 _ a5
        .exact h0
       | _=>exact h0
      .have N:gE e o.op=DH e/\gO o.op=o.op.operands.toList:=by
        cases L:o.op<;>first|exact ⟨rfl,rfl⟩|exact absurd ⟨_,_,_,L⟩ a0
       rw [N.1]
       exact a1 t (R _ (by rw [N.2];simpa using hx))
     | _=>exact h0
    classical
    let G:Nat->D:=λt=>if (Operand.tmp t)∈o.op.operands then gE e o.op t else .junk
    have W:∀ x∈o.op.operands,eZ (gE e o.op) x=eZ G x:=by
     intro x hx
     cases x with
     | tmp t=>simp [eZ,G,hx]
     | _=>rfl
    have a6:EnvR (dA M0 H σ) σ H.al w a.eval G:=by
     refine ⟨λt=>?_,λ_=>rfl,λ_=>rfl⟩
     by_cases ht:(Operand.tmp t)∈o.op.operands
     .have:=hE _ ht
      simp only [G,if_pos ht]
      exact this
     .simp only [G,if_neg ht];exact .junk _
    cases I:gQ (gE e o.op) o with
    | none =>
     simp only [I] at h
     obtain ⟨k,i⟩:=h
     obtain ⟨E,B⟩:=k trivial
     rw [DA W] at E B i
     obtain ⟨k,v,w',σ',Z,N,Y,h5,J⟩:=Gi (P:=P) hn s.rel a6 E
     rw [B] at N Y J
     unfold Oper.wp
     rcases Z with Z|⟨Z,rfl⟩
     .rw [Z,Oper.upon_value]
      exact ⟨_,_,_,σ',i λ_ _=>k,s.put N J V (.opt _ _ _ (λh=>by cases h) λ_=>Y),h5,J⟩
     .rw [Z,Oper.upon_skip]
      exact ⟨_,_,_,σ',i λ_ _=>k,s.put N J V (.opt _ _ _ (λh=>by cases h) λ_=>Y),h5,J⟩
    | some fa =>
     obtain ⟨f,args⟩:=fa
     simp only [I] at h
     have h':ACalls P f args H λv H1=>∃ S,K (.opt true v) H1 S:=by
      have hl:(∃ r S,((true:Bool)=true->∀ H',f6 S H' H->ACalls P f args H' λv H1=>v=r/\H1=H')/\K (.opt true r) H S)->ACalls P f args H λv H1=>∃ S,K (.opt true v) H1 S:=by
       rintro ⟨r,S,k,i⟩
       exact (k rfl H λ_ _=>rfl).mono λv H1 ⟨e1,G⟩=>⟨S,by rw [e1,G];exact i⟩
      cases dr with
      | some _=>exact hl (bX h)
      | none =>
       rcases h with h|⟨k,i⟩
       .exact hl (bX h)
       .exact ACalls.mono (bX k) λv H1 M=>⟨[],M⟩
     obtain ⟨y,z,A⟩:=Bm (P:=P) hE I h'.1
     refine AS (args:=args) z ((h'.2 M0 σ w y s.rel A).mono λe' w' ⟨v,d,H',σ',he,X,hv,T,M,S,i⟩=>?_)
     exact ⟨v,he,_,_,S,σ',i,s.put X M V (.opt _ _ _ (λh=>by cases h) λ_=>hv),T,M⟩
end
end Go.Abs
end
section
namespace Go.Abs
def chk (sp:List (Nat × Nat))(i:Nat)(F:List Nat)(acc:List (Nat × List Nat)):Prop :=
 match sp with
 | []=>True
 | _=>∀ p∈acc,(p.1,i)∈sp->∀ x∈p.2,x∉F
def jZ (P:Program)(md:Nat->Bool)(ops:Array Oper)(sp:List (Nat × Nat))(n0:Nat):Nat->List Oper->List (Nat × List Nat)->(Nat->D)->AHeap->((Nat->D)->AHeap->Prop)->Prop
 | _,[],_,e,H,K=>K e H
 | i,o :: rest,acc,e,H,K=>pI P md (some n0) (n0+i) ops e o H λv H' F=>chk sp i F acc/\jZ P md ops sp n0 (i+1) rest ((i,F) :: acc) (oP e o.dst v) H' K
/-! ### which operations come ahead of which -/
def NE:List Oper->List Nat->List Nat
 | [],acc=>acc
 | o :: rest,acc=>NE rest (acc++[o.after.toList.foldl (λs e=>if Region.binds .any e then s ||| 2 ^ e.on ||| acc.getD e.on 0 else s) 0])
def vV:Op->Bool
 | .store .. | .alloc _ | .box .. | .buildSlice .. | .makeSlice ..=>true
 | .call { callee:=.builtin .append,.. } | .call { callee:=.builtin .clear,.. }=>true
 | .move x | .assign x=>jB x
 | _=>false
def EX (md:Nat->Bool)(o:Oper):Bool:=match o.op with
 | .call { callee:=.value _,.. }=>De md o.dst
 | _=>false
def mX (md:Nat->Bool)(o:Oper):Bool:=vV o.op||EX md o
def KT (ops:Array Oper)(x y:Oper):Bool:=!(x.apart ops y)
def G9 (md:Nat->Bool)(x y:Oper):Bool:=qT x.op&&qT y.op&&(mX md x||mX md y)
def vZ (md:Nat->Bool)(ops:Array Oper)(sp:List (Nat × Nat)):Bool :=
  let b:=NE ops.toList []
  (List.range ops.size).all λj=>match ops[j]? with
    | none=>true
    | some y=>(y.after.toList.all λe=>!Region.binds .any e||decide (e.on<j)) &&
      (match y.guard with|none=>true|some (g,_)=>decide (g<ops.size)) &&
      (List.range j).all λi=>match ops[i]? with
        | none=>true
        | some x=>(b.getD j 0).testBit i||(!KT ops x y&&(!G9 md x y||sp.contains (i,j)))
def Lf (ops:Array Oper)(S:Nat->Bool):Prop:=∀ j o,ops[j]?=some o->S j=true->∀ e∈o.after.toList,Region.binds .any e=true->S e.on=true
theorem Jk (S:Nat->Bool)(acc:List Nat)(hacc:∀ k i,S k=true->(acc.getD k 0).testBit i=true->S i=true) :
  ∀ (es:List Edge) (s:Nat),(∀ e∈es,Region.binds .any e=true->S e.on=true)->(∀ i,s.testBit i=true->S i=true) ->
   ∀ i,(es.foldl (λs e=>if Region.binds .any e then s ||| 2 ^ e.on ||| acc.getD e.on 0 else s) s).testBit i=true->S i=true
 | [],s,_,hs,i,h=>hs i h
 | e :: es,s,he,hs,i,h=>by
  simp only [List.foldl_cons] at h
  refine Jk S acc hacc es _ (λe' h'=>he e' (by simp [h'])) (λi hi=>?_) i h
  split at hi
  .rename_i hb
   have hSe:=he e bW hb
   rw [Nat.testBit_or,Nat.testBit_or,c4,c4] at hi
   rcases hi with (hi|hi)|hi
   .exact hs i hi
   .rw [Nat.testBit_two_pow] at hi
    have:e.on=i:=by simpa using hi
    rw [<- this];exact hSe
   .exact hacc e.on i hSe hi
  .exact hs i hi
theorem JA {ops:Array Oper}{S:Nat->Bool}(r:Lf ops S):∀ j i,S j=true->((NE ops.toList []).getD j 0).testBit i=true->S i=true:=by
 have f:∀ (l:List Oper) (a:List Nat),(∀ (k:Nat),(ops.toList.drop a.length)[k]?=l[k]?)->(∀ k i,S k=true->(a.getD k 0).testBit i=true->S i=true) ->
   ∀ j i,S j=true->((NE l a).getD j 0).testBit i=true->S i=true:=by
  intro l
  induction l with
  | nil=>intro a _ b j i d c;exact b j i d c
  | cons o l ih =>
   intro a p b j i d c
   refine ih _ (λk=>?_) (λk i hk hi=>?_) j i d c
   .have:=p (k+1)
    simp only [cD,Hp,aL,fH,qN] at this ⊢
    grind
   .rw [List.getD_eq_getElem?_getD] at hi
    by_cases m:k<a.length
    .rw [aS m,<- List.getD_eq_getElem?_getD] at hi
     grind
    .by_cases n:k=a.length
     .subst n
      rw [aZ (bC _),xO] at hi
      have q:=p 0
      have g:ops[a.length]?=some o:=by simpa using q
      exact Jk S a b o.after.toList 0 (λe he c=>r _ o g hk e he c) (λi h=>by simp at h) i hi
     .rw [aZ aD,b7 (by simp;omega)] at hi
      simp at hi
 exact λj i d c=>f ops.toList [] (λk=>by simp) (λk i hk hi=>by simp at hi) j i d c
def gI (p:Nat->Bool):Nat->Option Nat
 | 0=>none
 | n+1=>if p n then some n else gI p n
theorem kD {p q:Nat->Bool}:∀ (n:Nat),(∀ k,k<n->p k=q k)->gI p n=gI q n
 | 0,_=>rfl
 | n+1,h=>by simp only [gI,h n aD,kD n (λk hk=>h k aD)]
theorem A3 {p:Nat->Bool}(m:Nat):∀ (n:Nat),m<=n->(∀ k,m<=k->k<n->p k=false)->gI p n=gI p m
 | 0,h,_=>by rw [Nat.le_zero.1 h]
 | n+1,h,hp=>by
  by_cases hm:m=n+1
  .rw [hm]
  .simp only [gI,hp n aD aD,eX,if_false]
   exact A3 m n aD λk h1 h2=>hp k h1 aD
end Go.Abs
end

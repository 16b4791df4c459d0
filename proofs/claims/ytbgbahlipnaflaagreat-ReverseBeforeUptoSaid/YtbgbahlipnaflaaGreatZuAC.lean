/- The abstraction layer, part I: the operations that only comp -/
import Derived.Test.YtbgbahlipnaflaaGreatZuAB
set_option linter.unusedVariables false
set_option linter.unusedSimpArgs false
section
namespace Go.Abs
section
variable {P:Program} {M0:Nat→Prop} {H:AHeap} {σ:Nat→Option Ow} {w:World}
theorem Vz {M:Nat->Prop}{N:Nat->Prop}{v:Value}{cs:UN}(c:Nat)(h:RepV M σ N w v (.adr cs)) :
  ∃ a,v=.pointer (some a)/\RepV M σ N w (.pointer (some (a.add c))) (.adr (cs.drop c)):=by
 obtain ⟨i,f,rfl,b,g,e⟩:=MW h;refine ⟨i,rfl,.adr _ (f.drop c) _ (by simp [b.len]) (λu hu=>g u (eU hu)) (λj u hu=>?_) λj u d hu hd=>?_⟩
 .rw [cJ] at hu;obtain ⟨l,k⟩:=e _ u hu;rw [i6,AC];grind
 .rw [cJ] at hu hd;exact b.Z _ u d hu hd
theorem RF {v:Value}{c ver i a:Nat}{k:Blk}(g:Rel M0 H σ w)(d:RepV (dQ M0 H σ) σ H.D w v (.ptr c ver i a))(f:H.get c=some k)(j:k.P.length=ver) :
  ∃ b o,σ c=some o/\o.block=some b/\v=.pointer (some ⟨b,i * o.F+a,none⟩)/\H.D c/\o.ah=ver:=by
 obtain ⟨o,m,l⟩:=g.aj c k f;cases d
 rename_i p n h;have e:o.ah=k.P.length:=l.ah;grind
theorem Fv {v:Value}{x:D}{c:Nat}(l:Rel M0 H σ w)(h:RepV (dQ M0 H σ) σ H.D w v x)(e:(e8 x c H).cond) :
  ∃ a,v=.pointer (some a)/\RepV (dQ M0 H σ) σ H.D w (.pointer (some (a.add c))) (e8 x c H).val/\(e8 x c H).heap=H/\(e8 x c H).X:=by
 unfold e8 at *;cases x<;>try (exact e.elim)
 case adr cs =>
  obtain ⟨a,s,r⟩:=Vz c h;grind
 case ptr id ver i o =>
  cases f:H.get id with
  | none=>simp [f,AOut.bad] at e
  | some k =>
   simp only [f] at e ⊢;obtain ⟨b,n,p,q,rfl,m,j⟩:=RF l h f e;refine ⟨_,rfl,?_,trivial,trivial⟩;rw [jD];refine .ptr _ id ver i (o+c) m rfl λo' ho'=>?_;grind
theorem F3 {t:TypeId}{z:Value}{x:D}{f:Nat}(C:Rel M0 H σ w)(F:RepV (dQ M0 H σ) σ H.D w z x)(k:(jA P t x f H).cond) :
  (jA P t x f H).X/\OpS P (Instr.fieldAt t z f) M0 H σ w (jA P t x f H).val (jA P t x f H).heap:=by
 unfold jA at *;cases m:bk P t with
 | none=>simp [m,AOut.bad] at k
 | some b =>
  cases b with
  | ar p=>simp [m,AOut.bad] at k
  | st l =>
   simp only [m] at k ⊢;cases B:l[f]? with
   | none=>simp [B,AOut.bad] at k
   | some q =>
    obtain ⟨g,p⟩:=q;simp only [B] at k ⊢;obtain ⟨a,rfl,o,J,j⟩:=Fv C F k.1;refine ⟨j,?_⟩;rw [J];unfold bk at m;cases u:P.underlying t with
    | none=>simp [u] at m
    | some L =>
     rw [u] at m;cases L<;>simp at m
     rename_i K;have I:∃ d,K[f]?=some d/\∃ i,P.info? d.type=some i/\g=d.offset/\p=i.size:=by
      have E:∀ (d:List Field) (l:List (Nat × Nat)) (f:Nat),d.mapM (λf=>(P.info? f.type).map λi=>(f.offset,i.size))=some l->l[f]?=some (g,p) ->
        ∃ x,d[f]?=some x/\∃ i,P.info? x.type=some i/\g=x.offset/\p=i.size:=by
       intro d;induction d with
       | nil=>intro l f h A;simp at h;subst h;simp at A
       | cons a d ih =>
        intro l f h A;simp only [List.mapM_cons,Option.bind_eq_bind,Option.pure_def] at h;cases s:P.info? a.type with
        | none=>simp [s] at h
        | some i =>
         cases G:d.mapM (λf=>(P.info? f.type).map λi=>(f.offset,i.size)) with
         | none=>simp [s,G] at h
         | some rest =>
          grind
      grind
     obtain ⟨d,y,i,s,rfl,rfl⟩:=I;have v:i.size≠0:=by have:=k.2;omega
     exact .pure C (by simp [Instr.fieldAt,run_underlying u,y,Instr.sureAddr,fieldPlace,sizeOf,typeInfo,s,v]) o
theorem PI {t:TypeId}{n sz:Nat}(h:Vx P t=some (n,sz)):∃ e i,P.underlying t=some (.array n e)/\P.info? e=some i/\i.size=sz:=by grind [Vx]
theorem FU {t:TypeId}{W vi:Value}{x i:D}(R:Rel M0 H σ w)(Q:RepV (dQ M0 H σ) σ H.D w W x)(hi:RepV (dQ M0 H σ) σ H.D w vi i)(B:(i9 P t x i H).cond) :
  (i9 P t x i H).X/\OpS P (Instr.indexAt t W vi) M0 H σ w (i9 P t x i H).val (i9 P t x i H).heap:=by
 unfold i9 at *;cases i<;>try (exact B.elim)
 rename_i kd n;cases hi
 have L:∀ (x:D),RepV (dQ M0 H σ) σ H.D w W x->(match Vx P t with
   | some (len,sz)=>(⟨(e8 x (n.toNat * sz) H).cond/\0<=n/\n<len,(e8 x (n.toNat * sz) H).X,(e8 x (n.toNat * sz) H).val,(e8 x (n.toNat * sz) H).heap⟩:AOut)
   | none=>AOut.bad H).cond->(match Vx P t with
   | some (len,sz)=>(⟨(e8 x (n.toNat * sz) H).cond/\0<=n/\n<len,(e8 x (n.toNat * sz) H).X,(e8 x (n.toNat * sz) H).val,(e8 x (n.toNat * sz) H).heap⟩:AOut)
   | none=>AOut.bad H).X/\OpS P (Instr.indexAt t W (.int kd n)) M0 H σ w (match Vx P t with
   | some (len,sz)=>(⟨(e8 x (n.toNat * sz) H).cond/\0<=n/\n<len,(e8 x (n.toNat * sz) H).X,(e8 x (n.toNat * sz) H).val,(e8 x (n.toNat * sz) H).heap⟩:AOut)
   | none=>AOut.bad H).val (match Vx P t with
   | some (len,sz)=>(⟨(e8 x (n.toNat * sz) H).cond/\0<=n/\n<len,(e8 x (n.toNat * sz) H).X,(e8 x (n.toNat * sz) H).val,(e8 x (n.toNat * sz) H).heap⟩:AOut)
   | none=>AOut.bad H).heap:=by
  intro x Q B;cases ha:Vx P t with
  | none=>simp [ha,AOut.bad] at B
  | some q =>
   obtain ⟨len,sz⟩:=q;simp only [ha] at B ⊢;obtain ⟨h1,K,S⟩:=B;obtain ⟨a,rfl,A,hh,N⟩:=Fv R Q h1;refine ⟨N,?_⟩;rw [hh];obtain ⟨e,i,h,a3,p⟩:=PI ha;exact .pure R (by simp [Instr.indexAt,run_underlying h,asIntOf,Instr.sureAddr,K,S,sizeOf,typeInfo,a3,p]) A
 cases x<;>try (exact L _ Q B)
 case list es =>
  cases G:sl P t with
  | none=>simp [G,AOut.bad] at B
  | some s =>
   simp only [G] at B ⊢;obtain ⟨⟨h0,h1⟩,K⟩:=B;obtain ⟨h,ti,z,M,hz,p,_,a0,_⟩:=s5 G;obtain ⟨q,rfl⟩:=fK h0;simp only [Int.toNat_natCast] at K ⊢;have I:q<es.length:=aD;have J:es[q]?=some es[q]:=aA I;rw [J] at K ⊢;simp only [Option.getD_some] at K ⊢;refine ⟨trivial,?_⟩;rcases uA Q with ⟨rfl,rfl⟩|⟨ad,a5,sz,xs,rfl,A,Z,O,a2,hm,E⟩
   .simp at I
   .have U:sz=s.Y:=(E _ (aC I)).symm.trans K;subst U;have a4:=mP es E;have Y:q * s.Y+s.Y<=xs.length:=by
     rw [A.len,a4];have:(q+1) * s.Y<=es.length * s.Y:=fU _ I;rw [Nat.add_mul] at this;omega
    refine .pure R (v:=.pointer (some (ad.add (q * s.Y)))) (by simp [Instr.indexAt,run_underlying h,asIntOf,I,sizeOf,typeInfo,M,p]) ?_;refine .adr _ ((xs.drop (q * s.Y)).take s.Y) _ (by simp only [dH,fX];omega) (λu h=>Z u (eU (dE h))) (λj u h=>?_) λj u d h hd=>?_
    .rw [b8] at h;split at h
     .rw [cJ] at h;obtain ⟨h5,h6⟩:=O _ u h;rw [i6,AC];exact ⟨h5,h6⟩
     .cases h
    .rw [b8] at h;split at h
     .rename_i hj;rw [cJ] at h;exact A.Z _ u d h (by rw [nY es q _ E J j hj];exact hd)
     .cases h
 case own id m =>
  cases G:sl P t with
  | none=>simp [G,AOut.bad] at B
  | some s =>
   cases X:H.get id with
   | none=>simp [G,X,AOut.bad] at B
   | some k =>
    simp only [G,X] at B ⊢;obtain ⟨⟨h0,h1⟩,K,S⟩:=B;obtain ⟨h,ti,z,M,hz,p,_,a0,_⟩:=s5 G;obtain ⟨q,rfl⟩:=fK h0;simp only [Int.toNat_natCast] at S ⊢;have I:q<k.P.length:=aD;have a1:q<m:=aD;refine ⟨trivial,?_⟩;obtain ⟨o,ho,l⟩:=R.aj id k X;have V:o.F=s.Y:=by
     rw [aA I] at S;simp only [Option.getD_some] at S;exact (l.F _ (aC I)).symm.trans S
    have hN:H.D id:=by cases Q;assumption
    rcases RJ R Q X K with ⟨rfl,rfl⟩|⟨b,a5,rfl,a2,hm,o',F,hb,_,T⟩
    .omega
    .rw [ho] at F;cases F
     refine .pure R (v:=.pointer (some ⟨b,q * s.Y,none⟩)) (by simp [Instr.indexAt,run_underlying h,asIntOf,a1,sizeOf,typeInfo,M,p,jD]) ?_;refine .ptr _ id m q 0 hN rfl λo' F=>?_;rw [ho] at F;cases F
     exact .inr ⟨T.symm,b,hb,by rw [V];simp⟩
theorem OA {i k j:Value}{c a b:D}(g:Rel M0 H σ w)(e:RepV (dQ M0 H σ) σ H.D w i c)(m:RepV (dQ M0 H σ) σ H.D w k a)(l:RepV (dQ M0 H σ) σ H.D w j b)
  (f:(wE c a b H).cond):(wE c a b H).X/\OpS P (do pure (if <- asBool i then k else j)) M0 H σ w (wE c a b H).val (wE c a b H).heap:=by
 unfold wE at *;split at f
 .cases e;cases m
  exact ⟨trivial,.pure g (by simp [asBool]) (.bool _)⟩
 .cases e;cases m
  rename_i h;have:=h f;cases this
  exact ⟨trivial,.pure g (by simp [asBool]) (.bool _)⟩
 .cases e;cases l
  exact ⟨trivial,.pure g (by simp [asBool]) (.bool _)⟩
 .cases e;cases l
  rename_i h;have:=h f;cases this
  exact ⟨trivial,.pure g (by simp [asBool]) (.bool _)⟩
 .exact f.elim
theorem QA {l n m:Value}{c a b:D}(f:Rel M0 H σ w)(e:RepV (dQ M0 H σ) σ H.D w l c)(k:RepV (dQ M0 H σ) σ H.D w n a)(j:RepV (dQ M0 H σ) σ H.D w m b)
  (i:(AE c a b H).cond):(AE c a b H).X/\OpS P (do pure (if <- asBool l then n else m)) M0 H σ w (AE c a b H).val (AE c a b H).heap:=by
 unfold AE at *;split at i
 .rename_i c a b;cases e;cases k;cases j
  cases c<;>exact ⟨trivial,.pure f (by simp [asBool]) (.bool _)⟩
 .rename_i c a g b;cases e;cases k;cases j
  rename_i h;cases c with
  | true=>exact ⟨trivial,.pure f (by simp [asBool]) (.bool _)⟩
  | false =>
   have:=h (i rfl);cases this
   exact ⟨trivial,.pure f (by simp [asBool]) (.bool _)⟩
 .rename_i c g a b;cases e;cases k;cases j
  rename_i h;cases c with
  | false=>exact ⟨trivial,.pure f (by simp [asBool]) (.bool _)⟩
  | true =>
   have:=h (i rfl);cases this
   exact ⟨trivial,.pure f (by simp [asBool]) (.bool _)⟩
 .rename_i c g a r b;cases e;cases k;cases j
  rename_i p h o q;cases c with
  | false =>
   have:=q (i.2 rfl);cases this
   exact ⟨trivial,.pure f (by simp [asBool]) (.bool _)⟩
  | true =>
   have:=h (i.1 rfl);cases this
   exact ⟨trivial,.pure f (by simp [asBool]) (.bool _)⟩
 .exact OA f e k j i
theorem KC {mx:Bool}{b:Builtin}(i:b=if mx then .max else .min){t:TypeId}{ts:Array TypeId}{d c:Value}{x y:D}(f:Rel M0 H σ w)(h:RepV (dQ M0 H σ) σ H.D w d x)(g:RepV (dQ M0 H σ) σ H.D w c y)
  (e:(DI mx x y H).cond):(DI mx x y H).X/\OpS P (if mx then Builtin.max_ ts t #[d,c] else Builtin.min_ ts t #[d,c]) M0 H σ w (DI mx x y H).val (DI mx x y H).heap:=by
 unfold DI at *;split at e
 .obtain rfl:=e;cases h;cases g
  cases mx with
  | true=>exact ⟨trivial,.pure f (by simp [Builtin.max_,Builtin.max2]) (.int _ _)⟩
  | false=>exact ⟨trivial,.pure f (by simp [Builtin.min_,Builtin.min2]) (.int _ _)⟩
 .exact e.elim
theorem JJ {s d:TypeId}{h:Value}{x:D}(j:Rel M0 H σ w)(i:RepV (dQ M0 H σ) σ H.D w h x)(b:(oA P s d x H).cond) :
  (oA P s d x H).X/\OpS P (convert s d h) M0 H σ w (oA P s d x H).val (oA P s d x H).heap:=by
 unfold oA at *;split at b
 .rename_i p n;split at b
  .rename_i k c;cases i
   obtain ⟨o,m⟩:=b;obtain ⟨r,g⟩:=gW.1 o;unfold QO at c;split at c
   .rename_i q l;cases c
    exact ⟨trivial,.pure j (by simp [convert,run_underlying g,run_underlying l,Conv.intToInt,tO m]) (.int _ _)⟩
   .cases c
  .exact b.elim
 .split at b
  .rename_i f e;cases i
   exact ⟨trivial,.pure j (by simp [convert,run_underlying f,run_underlying e]) (.str _)⟩
  .exact b.elim
 .exact b.elim
theorem T9 {b:UnOp}{d:Value}{x:D}(f:Rel M0 H σ w)(e:RepV (dQ M0 H σ) σ H.D w d x)(c:(VA b x H).cond) :
  (VA b x H).X/\OpS P (Op.unary b d) M0 H σ w (VA b x H).val (VA b x H).heap:=by
 unfold VA at *;split at c
 .cases e;exact ⟨trivial,.pure f (by simp [Op.unary]) (.bool _)⟩
 .cases e;exact ⟨trivial,.pure f (by simp [Op.unary,Op.intArith];rw [tO (bZ c)]) (by simpa using RepV.int _ _)⟩
 .exact c.elim
theorem JE {c:Value}{x:D}{i:Nat}(h:Rel M0 H σ w)(e:RepV (dQ M0 H σ) σ H.D w c x)(d:(n9 x i H).cond) :
  (n9 x i H).X/\OpS P (Instr.extract c i) M0 H σ w (n9 x i H).val (n9 x i H).heap:=by
 unfold n9 at *;cases x<;>try (exact d.elim)
 rename_i j;cases e
 rename_i b f k;have g:i<b.length:=by rw [f];exact d
 refine ⟨trivial,.pure h (v:=b[i]) (by simp [Instr.extract,g]) ?_⟩;grind
theorem Kx {nid:Nat}(k:¬ H.D nid){m:Bool}{t:TypeId}{x:Sem Value}(h:Rel M0 H σ w)(g:x.run P w=.ok (.slice none 0 0) w)(l:(EB P nid m t H).cond) :
  (EB P nid m t H).X/\OpS P x M0 H σ w (EB P nid m t H).val (EB P nid m t H).heap:=by
 unfold EB at *;cases m with
 | false=>exact ⟨trivial,.pure h g .nil⟩
 | true =>
  cases i:sl P t with
  | none=>simp [i,AOut.bad] at l
  | some s =>
   have f:=Rel.push h nid k (w':=w) rfl rfl rfl (bF _) (λ_ _=>rfl) ⟨s.e,s.Y,[],false⟩ ⟨0,.slice none 0 0,s.Y,s.e⟩ (λb hb=>by simp [Ow.block,Value.ownBlock] at hb) rfl rfl rfl aE
    [] (World.ownsRow_nil w 0 s.e s.Y) aE ⟨rfl,λj u d hu=>by simp at hu⟩
   refine ⟨trivial,_,w,_,g,f.1,.own _ nid 0 (.inl rfl) rfl λo ho=>?_,f.2.1,f.2.2⟩;grind
theorem HE {d:Value}{x:D}(j:Rel M0 H σ w)(g:RepV (dQ M0 H σ) σ H.D w d x)(c:(kD x H).cond) :
  ∃ a,d=.pointer (some a)/\(kD x H).X/\RepV (dQ M0 H σ) σ H.D w d (kD x H).val/\(kD x H).heap=H:=by
 unfold kD at *;cases x<;>try (exact c.elim)
 case adr cs =>
  obtain ⟨r,l,rfl,_⟩:=MW g;grind
 case ptr id ver i o =>
  cases e:H.get id with
  | none=>simp [e,AOut.bad] at c
  | some k =>
   simp only [e] at c ⊢;obtain ⟨b,m,n,p,rfl,q,h⟩:=RF j g e c;grind
end
end Go.Abs
end
section
namespace Go.Abs
section
variable {P:Program} {M0:Nat→Prop} {H:AHeap} {σ:Nat→Option Ow} {w:World}
theorem AF {M:Nat->Prop}{N:Nat->Prop}{b:Option Value}{c:Option D}{a n:Int}(h:∀ v x,b=some v->c=some x->RepV M σ N w v x)(e:b.isSome=c.isSome)(d:VJ c a=some n) :
  (b=none/\n=a)\/∃ k,b=some (.int k n):=by
 cases c with
 | none=>cases b with
  | none=>simp [VJ] at d;exact .inl ⟨rfl,d.symm⟩
  | some v=>simp at e
 | some x=>cases b with
  | none=>simp at e
  | some v =>
   have:=h v x rfl rfl;cases x<;>simp [VJ] at d
   cases this
   grind
theorem AI {e:TypeId}{t:TypeId}(n:P.underlying t=some (.slice e)){v:TypeInfo}(f:P.info? e=some v)(a:Option Addr)(len d:Nat)(z:len<=d)(p u:Option Value)(l h:Int)
  (A:(p=none/\l=0)\/∃ k,p=some (.int k l)) (B:(u=none/\h=len)\/∃ k,u=some (.int k h)) (y:0<=l) (C:l<=h) (F:h<=len) :
  (Instr.sliceAt t (.slice a len d) p u none).run P w=.ok (.slice (if d=l.toNat then a else a.map (·.add (l.toNat * v.size))) (h.toNat - l.toNat) (d - l.toNat)) w:=by
 have g:h<=(d:Int):=aD;have o:∀ (x:Nat) (k:IntKind) (i:Int) (j:BoundsCode),0<=i->i<=(x:Int)->(Instr.sliceBound (.int k i) x j).run P w=.ok i.toNat w:=by
  intro x k i j s r;simp [Instr.sliceBound,asIntOf,s,r]
 rcases A with ⟨rfl,rfl⟩|⟨D,rfl⟩<;>rcases B with ⟨rfl,rfl⟩|⟨E,rfl⟩
 .simp [Instr.sliceAt,Instr.slice,run_underlying n,Instr.sliceBounds,sizeOf,typeInfo,f]
 .simp [Instr.sliceAt,Instr.slice,run_underlying n,Instr.sliceBounds,sizeOf,typeInfo,f,o _ _ _ _ (by omega:(0:Int)<=h) g]
 .simp [Instr.sliceAt,Instr.slice,run_underlying n,Instr.sliceBounds,sizeOf,typeInfo,f,o len _ _ _ y C]
 .have q:l<=(h.toNat:Int):=aD;simp [Instr.sliceAt,Instr.slice,run_underlying n,Instr.sliceBounds,sizeOf,typeInfo,f,o _ _ _ _ (by omega:(0:Int)<=h) g,o _ _ _ _ y q]
theorem Jb {t:TypeId}(c:P.underlying t=some .string)(s:ByteArray)(e m:Option Value)(l h:Int)
  (p:(e=none/\l=0)\/∃ k,e=some (.int k l)) (q:(m=none/\h=s.size)\/∃ k,m=some (.int k h)) (o:0<=l) (r:l<=h) (n:h<=s.size) :
  (Instr.sliceAt t (.string s) e m none).run P w=.ok (.string (s.extract l.toNat h.toNat)) w:=by
 have d:∀ (x:Nat) (k:IntKind) (i:Int) (a:BoundsCode),0<=i->i<=(x:Int)->(Instr.sliceBound (.int k i) x a).run P w=.ok i.toNat w:=by
  intro x k i a j g;simp [Instr.sliceBound,asIntOf,j,g]
 rcases p with ⟨rfl,rfl⟩|⟨u,rfl⟩<;>rcases q with ⟨rfl,rfl⟩|⟨v,rfl⟩
 .simp [Instr.sliceAt,Instr.slice,run_underlying c,Instr.sliceBounds]
 .simp [Instr.sliceAt,Instr.slice,run_underlying c,Instr.sliceBounds,d _ _ _ _ (by omega:(0:Int)<=h) n]
 .simp [Instr.sliceAt,Instr.slice,run_underlying c,Instr.sliceBounds,d s.size _ _ _ o r]
 .have f:l<=(h.toNat:Int):=aD;simp [Instr.sliceAt,Instr.slice,run_underlying c,Instr.sliceBounds,d _ _ _ _ (by omega:(0:Int)<=h) n,d _ _ _ _ o f]
theorem NC {t:TypeId}{vx:Value}{x:D}{vlo vhi:Option Value}{V W:Option D}(X:Rel M0 H σ w)(hx:RepV (dQ M0 H σ) σ H.D w vx x)
  (S:∀ v x,vlo=some v->V=some x->RepV (dQ M0 H σ) σ H.D w v x) (A:vlo.isSome=V.isSome)
  (T:∀ v x,vhi=some v->W=some x->RepV (dQ M0 H σ) σ H.D w v x) (C:vhi.isSome=W.isSome) (n:(rR P t x V W H).cond) :
  (rR P t x V W H).X/\OpS P (Instr.sliceAt t vx vlo vhi none) M0 H σ w (rR P t x V W H).val (rR P t x V W H).heap:=by
 unfold rR at *;split at n
 .rename_i es;split at n
  .rename_i s l h hs hl hh;obtain ⟨F,J,h2,h3⟩:=n;obtain ⟨f,ti,z,y,hz,B,_,b2,_,_,a9,_⟩:=s5 hs;have R:=AF S A hl;have K:=AF T C hh;obtain ⟨a,rfl⟩:=fK F;obtain ⟨b,rfl⟩:=fK (Int.le_trans F J);simp only [Int.toNat_natCast];have b6:a<=b:=aD;have I:b<=es.length:=aD;refine ⟨trivial,?_⟩;rcases uA hx with ⟨rfl,rfl⟩|⟨ad,r,sz,xs,rfl,O,a3,U,a7,hm,p⟩
   .have hrun:=AI (P:=P) (w:=w) f y none 0 0 (bF _) vlo vhi a b R K F J (bZ h2);simp at I;subst I;have:a=0:=aD;subst this;refine .pure X hrun ?_;simpa using RepV.listN
   .have hrun:=AI (P:=P) (w:=w) f y (some ad) es.length r a7 vlo vhi a b R K F J h2;simp only [Int.toNat_natCast,eD] at hrun;have Q:((es.take b).drop a).length=b - a:=by simp;omega
    have Y:es≠[]->sz=s.Y:=λa5=>by
     cases es with
     | nil=>exact absurd rfl a5
     | cons e es=>simp at h3;exact (p e aE).symm.trans h3
    rw [B] at hrun;refine .pure X hrun ?_;have a0:∀ c∈(es.take b).drop a,c.length=sz:=λc n=>p c (dE (eU n));have E:((es.take b).drop a).flatten=(es.flatten.take (b * sz)).drop (a * sz):=by
     rw [qM _ a (λc n=>p c (dE n)),qL _ b p]
    by_cases a2:r=a
    .have hba:b=a:=aD;subst hba;simp only [a2,if_true];have q:(es.take b).drop b=[]:=iR (by simp;omega);rw [q];have:=RepV.list (M:=dQ M0 H σ) (σ:=σ) (N:=H.D) (w:=w) ad (b - b) 0 [] [] aE aE aE rfl aE (λj u f=>by simp at f) (λj u d f=>by simp at f);simpa using this
    .rw [if_neg a2];have hv:=RepV.list (M:=dQ M0 H σ) (σ:=σ) (N:=H.D) (w:=w) (ad.add (a * s.Y)) (r - a) sz ((xs.take (b * sz)).drop (a * sz)) ((es.take b).drop a) (by rw [Q];omega) aD a0
      (by rw [E];simp [O.len]) (λu f=>a3 u (dE (eU f))) (λj u f=>by
       rw [cJ,b8] at f;split at f
       .obtain ⟨h5,h6⟩:=U _ u f;rw [i6,AC];refine ⟨h5,?_⟩;rw [<- Y (λe=>by subst e;simp at I;subst I;simp at *)];exact h6
       .cases f) (λj u d f hd=>by
       rw [E,cJ,b8] at hd;rw [cJ,b8] at f;split at f
       .rename_i hj;rw [if_pos hj] at hd;exact O.Z _ u d f hd
       .cases f)
     rw [Q] at hv;exact hv
  .exact n.elim
 .rename_i id m;split at n
  .rename_i s k l h hs hk hl hh;obtain ⟨⟨F,J,h2⟩,a1,a8⟩:=n;obtain ⟨f,ti,z,y,hz,B,_⟩:=s5 hs;have R:=AF S A hl;have K:=AF T C hh;obtain ⟨a,rfl⟩:=fK F;obtain ⟨b,rfl⟩:=fK (Int.le_trans F J);simp only [Int.toNat_natCast];obtain ⟨o,ho,lz⟩:=X.aj id k hk;obtain ⟨xs,Z,_,_⟩:=lz.row;cases hx
   rename_i b0 hN h;refine ⟨trivial,?_⟩;rcases h o ho with h'|⟨b7,rfl⟩
   .have:=lz.ah;omega
   .have hso:∀ G,σ id=some G->G=o:=λG i=>by rw [ho] at i;exact (Option.some.inj i).symm
    rcases Z.2 with ⟨q,b1⟩|⟨g,r,b9,L,b5,hg,a6,b4,b3,a4⟩
    .have hrun:=AI (P:=P) (w:=w) f y none 0 0 (bF _) vlo vhi a b R (by rw [(aD:m=0)] at K;exact K) F J aD;have ha:a=0:=aD;have hb:b=0:=aD;subst ha hb;rw [q];refine .pure X (bZ hrun) (.win _ id m 0 0 hN rfl ⟨bF _,eP _⟩ λG i=>.inr ⟨?_,.inl ⟨?_,rfl,rfl⟩⟩)
     .rw [hso G i];omega
     .rw [hso G i];exact q
    .have hrun:=AI (P:=P) (w:=w) f y (some ⟨g,0,none⟩) k.P.length r a6 vlo vhi a b R (by rw [a1];exact K) F J aD;rw [L];refine .pure X hrun ?_;refine .win _ id m a b hN rfl ⟨aD,aD⟩ λG i=>.inr ⟨?_,.inr ⟨g,r,?_,aD,?_⟩⟩
     .rw [hso G i];omega
     .rw [hso G i,L,a1]
     .rw [hso G i,lz.Y,a8,B];simp only [Int.toNat_natCast];split<;>simp [jD]
  .exact n.elim
 .rename_i s;split at n
  .rename_i l h f hl hh;obtain ⟨F,J,h2⟩:=n;cases hx
   have R:=AF S A hl;have K:=AF T C hh;exact ⟨trivial,.pure X (Jb f s vlo vhi l h R K F J h2) (.str _)⟩
  .exact n.elim
 .exact n.elim
theorem Xz {a:Nat}{k:Blk}(b:H.get a=some k):H.put a k=H:=by
 unfold AHeap.put;have:(λi=>if i=a then some k else H.get i)=H.get:=by
  grind
 rw [this]
theorem Sw {es:UE}{b a:Nat}{z:UN}(c:b<=a)(d:a<=es.length):(es.take b++List.replicate (a - b) z++es.drop a).length=es.length:=by simp;omega
theorem Ng {n:Nat}{es:UE}{a b:Nat}{z:UN}(d:∀ c∈es,c.length=n)(f:z.length=n)(g:a<=b)(i:b<=es.length) :
  (es.take a++List.replicate (b - a) z++es.drop b).flatten=es.flatten.take (a * n)++(List.replicate (b - a) z).flatten++es.flatten.drop (a * n+(List.replicate (b - a) z).flatten.length):=by
 rw [mV,mV,qL es a d,qM es b d,nF,f,<- Nat.add_mul,(aD:a+(b - a)=b)]
theorem Pw {t ty:TypeId}{K:Value}{x:D}(hR:Rel M0 H σ w)(hx:RepV (dQ M0 H σ) σ H.D w K x)(Y:(wF P t x H).cond) :
  (wF P t x H).X/\OpS P (Builtin.clear_ #[t] ty #[K]) M0 H σ w (wF P t x H).val (wF P t x H).heap:=by
 unfold wF at *;split at Y
 .rename_i id ver lo hi;split at Y
  .rename_i s k hs hk;obtain ⟨a4,Q,b7,a2⟩:=Y;obtain ⟨hu,ti,z,a1,hz,b1,_,b9,_,L,i,S,a0⟩:=s5 hs;obtain ⟨o,ho,l⟩:=hR.aj id k hk;obtain ⟨J,T,O,c⟩:=l.row;have c1:=l.ah;cases hx
   rename_i a9 hN W h;have hw:TW o K ver lo hi:=by
    rcases h o ho with h'|⟨_,G⟩
    .omega
    .exact G
   have E:lo=hi->(k.P.take lo++List.replicate (hi - lo) s.z++k.P.drop hi)=k.P:=λe=>by subst e;simp
   have R:RepV (dQ M0 H σ) σ H.D w (.tuple #[]) (.tup []):=.tup [] [] rfl (λj u d hu hd=>by simp at hu);refine ⟨trivial,?_⟩;have m:lo=hi->(Builtin.clear_ #[t] ty #[K]).run P w=.ok (.tuple #[]) w->OpS P (Builtin.clear_ #[t] ty #[K]) M0 H σ w (.tup []) (H.put id { k with P:=k.P.take lo++List.replicate (hi - lo) s.z++k.P.drop hi }):=λe n=>by
    rw [E e,Xz hk];exact .pure hR n R
   rcases hw with ⟨G,rfl,h4⟩|⟨b,I,G,b4,rfl⟩
   .exact m aD (by simp [Builtin.clear_,run_underlying hu])
   .by_cases he:lo=hi
    .refine m he ?_;subst he;simp [Builtin.clear_,run_underlying hu]
    .have hcl:I≠lo:=aD;rw [if_neg hcl];rcases T.2 with ⟨A,_⟩|⟨g,b5,a,y,a7,hg,V,a6,a5,C⟩
     .rw [G] at A;cases A
     .rw [G] at y;cases y
      have v:o.F=s.Y:=l.Y.trans a2;have b6:J.length=k.P.length * o.F:=c.len.trans (mP k.P l.F);have b3:k.P.length * o.F<=a.size:=by rw [a5];exact fU _ V
      obtain ⟨hr,h1⟩:=rW (M:=dQ M0 H σ) (σ:=σ) (N:=H.D) (w:=w) z (hi - lo) aD (by rw [<- L];exact a0);rw [<- L] at hr;have f:(madeCells z.cells ((hi - lo) * z.cells.size)).toList.length=(hi - lo) * o.F:=by simp [size_madeCells,S,v]
      have c0:(madeCells z.cells ((hi - lo) * z.cells.size)).size=(hi - lo) * o.F:=by rw [<- f,gC]
      have b0:lo * o.F+(hi - lo) * o.F=hi * o.F:=by rw [<- Nat.add_mul,(aD:lo+(hi - lo)=hi)]
      have b2:hi * o.F<=k.P.length * o.F:=fU _ aD;have r:=run_storeCells_at (P:=P) b (lo * o.F) k.ty (madeCells z.cells ((hi - lo) * z.cells.size)).toList 0 a w hg (by rw [f];omega) h1;simp only [uW] at r;have B:∀ w,(zeroValue s.e).run P w=.ok z w:=λw=>by simp [zeroValue,typeInfo,a1,hz]
      obtain ⟨q,hq⟩:∃ q,hi - lo=q+1:=⟨hi - lo - 1,aD⟩;have n:(Builtin.clear_ #[t] ty #[.slice (some ⟨b,lo * o.F,none⟩) (hi - lo) (I - lo)]).run P w=.ok (.tuple #[]) (w.setRow b (a.toList.take (lo * o.F)++(madeCells z.cells ((hi - lo) * z.cells.size)).toList++a.toList.drop (lo * o.F+(madeCells z.cells ((hi - lo) * z.cells.size)).toList.length)).toArray):=by
       rw [hq] at r ⊢;simp only [Builtin.clear_];simp [run_underlying hu,B];have a3:Builtin.zeroCells z.cells (q+1)=madeCells z.cells ((q+1) * z.cells.size):=rfl;rw [a3];simp at r;simp [r]
      have p:=Sw (z:=s.z) W.1 (aD:hi<=k.P.length);have X:=Ng (z:=s.z) l.F (by rw [i,v]) W.1 (aD:hi<=k.P.length);have U:(List.replicate (hi - lo) s.z).flatten.length=(hi - lo) * o.F:=by rw [nF,i,v]
      have Z:=Rel.put hR hk a4 ho { k with P:=k.P.take lo++List.replicate (hi - lo) s.z++k.P.drop hi } o (w':=w.setRow b (a.toList.take (lo * o.F)++(madeCells z.cells ((hi - lo) * z.cells.size)).toList++a.toList.drop (lo * o.F+(madeCells z.cells ((hi - lo) * z.cells.size)).toList.length)).toArray)
       ⟨rfl,rfl,rfl,by simp,λq _ hq=>setRow_other w b q _ (λe=>hq (by rw [e];simp [Ow.block,G,Value.ownBlock]))⟩ (λb' a8=>.inl a8) (.inl rfl) (by rw [p];exact l.ah) l.ty l.Y
       (λd hd=>by
        simp only [aZ] at hd;rcases hd with (hd|hd)|hd
        .exact l.F d (dE hd)
        .rw [lV hd,i,v]
        .exact l.F d (eU hd))
       (J.take (lo * o.F)++(madeCells z.cells ((hi - lo) * z.cells.size)).toList++J.drop (lo * o.F+(madeCells z.cells ((hi - lo) * z.cells.size)).toList.length))
       ⟨by simp only [aQ,dH,fX,f,p];omega,.inr ⟨b,I,_,by rw [p];simpa [Q] using G,a7,setRow_heap w b a _ k.ty _ hg,by rw [p];exact V,a6,by simp only [oT,aQ,dH,fX,f,gC];omega,by
        simp only [p];rw [<- C];apply iF;intro j;simp only [b8,jO,dH,cJ,gC];by_cases hj:j<k.P.length * o.F
        .rw [if_pos hj];have m1:min (lo * o.F) a.size=lo * o.F:=aD;have m2:min (lo * o.F) (min (k.P.length * o.F) a.size)=lo * o.F:=aD;rw [m1,m2];split
         .first|rfl|rw [if_pos hj]
         .split
          .rfl
          .first|rfl|rw [if_pos aD]
        .rw [if_neg hj];have m2:min (lo * o.F) (min (k.P.length * o.F) a.size)=lo * o.F:=aD;rw [m2,if_neg aD,if_neg aD,if_neg aD]⟩⟩
       (λu hu=>by
        simp only [aZ] at hu;rcases hu with (hu|hu)|hu
        .exact O u (dE hu)
        .exact h1 u hu
        .exact O u (eU hu))
       ⟨by simp only [X,aQ,dH,fX,f,U,c.len],λj u d hu hd=>by
        simp only [X] at hd;have F:k.P.flatten.length=J.length:=c.len.symm;simp only [jO,dH,b8,cJ,F,f,U] at hu hd;have m1:min (lo * o.F) J.length=lo * o.F:=aD;rw [m1] at hu hd;split at hd
        .rename_i hj1;rw [if_pos hj1] at hu;try rw [if_pos hj1] at hu
         try rw [if_pos hj1] at hd
         exact c.Z j u d hu hd
        .rename_i hj1;rw [if_neg hj1] at hu;split at hd
         .rename_i hj2;rw [if_pos hj2] at hu;exact hr.Z _ u d hu hd
         .rename_i hj2;rw [if_neg hj2] at hu;exact c.Z _ u d hu hd⟩
      simp only [Hv o id ho] at Z;exact ⟨_,_,σ,n,Z.1,.tup [] [] rfl (λj u d hu hd=>by simp at hu),Z.2.1,Z.2.2⟩
  .exact Y.elim
 .exact Y.elim
theorem O4 {t:TypeId}{A B:Value}{x i:D}(G:Rel M0 H σ w)(E:RepV (dQ M0 H σ) σ H.D w A x)(F:RepV (dQ M0 H σ) σ H.D w B i)(c:(uL P t x i H).cond) :
  (uL P t x i H).X/\OpS P (Instr.index t A B) M0 H σ w (uL P t x i H).val (uL P t x i H).heap:=by
 unfold uL at *;split at c
 .rename_i s J n;split at c
  .rename_i l;obtain ⟨y,Q⟩:=c;cases E;cases F
   obtain ⟨q,rfl⟩:=fK y;have hq:q<s.size:=aD;have hq':q<s.data.size:=hq;refine ⟨trivial,.pure G (v:=.int .u8 ((s.data[q]'hq').toNat:Int)) ?_ ?_⟩
   .have:s[q]?=some (s[q]'hq):=by simp [hq]
    simp [Instr.index,asIntOf,run_underlying l,this];rfl
   .have e:s.data[q]?=some (s.data[q]'hq'):=bR hq';simp only [Int.toNat_natCast,e,Option.getD_some];exact .int _ _
  .exact c.elim
 .rename_i V J n;split at c
  .rename_i I S g e M l;split at c
   .rename_i m;obtain ⟨⟨y,Q⟩,O,u⟩:=c;cases E;cases F
    rename_i z K T L;obtain ⟨q,rfl⟩:=fK y;simp only [Int.toNat_natCast] at u ⊢;obtain ⟨U,R,d,r,j⟩:=PI M;rw [l] at d;simp at d;obtain ⟨rfl,rfl⟩:=d;have N:=Uf (w:=w) m;have hq:q<z.length:=aD;have o:q<g:=aD;refine ⟨trivial,.pure G (v:=z[q]) ?_ ?_⟩
    .simp [Instr.index,asIntOf,run_underlying l,o,sizeOf,typeInfo,r,j,O,part,N,hq]
    .rw [aA u];exact L q _ _ (aA hq) (aA u)
   .exact c.elim
  .exact c.elim
 .exact c.elim
end
end Go.Abs
end
section
namespace Go.Abs
section
variable {P:Program} {M0:Nat→Prop} {H:AHeap} {σ:Nat→Option Ow} {w:World}
def VP (P:Program)(x:Sem Next)(M0:Nat->Prop)(H:AHeap)(σ:Nat->Option Ow)(w:World)(d:D)(H':AHeap):Prop :=
 ∃ v w' σ',(x.run P w=.ok (.value v) w'\/(x.run P w=.ok .skip w'/\v=undef))/\Rel M0 H' σ' w'/\RepV (dQ M0 H' σ') σ' H'.D w' v d/\Stp σ w σ' w' /\
  Keeps (dQ M0 H σ) σ H.D w (dQ M0 H' σ') σ' H'.D w'
theorem OpS.next {x:Sem Value}{d:D}{H':AHeap}(h:OpS P x M0 H σ w d H'):VP P (do Pure.pure (Next.value (<- x))) M0 H σ w d H':=by
 obtain ⟨v,a,σ',b,g,f,e,c⟩:=h;exact ⟨v,a,σ',.inl (by simp [b]),g,f,e,c⟩
theorem OpU.next {x:Sem Unit}{H':AHeap}(h:OpU P x M0 H σ w H'):VP P (do x;Pure.pure Next.skip) M0 H σ w .junk H':=by
 obtain ⟨b,σ',c,f,e,d⟩:=h;exact ⟨undef,b,σ',.inr ⟨by simp [c],rfl⟩,f,.junk _,e,d⟩
def EnvR (M:Nat->Prop)(σ:Nat->Option Ow)(N:Nat->Prop)(w:World)(ρ:Operand->Value)(e:Nat->D):Prop :=
 (∀ t,RepV M σ N w (ρ (.tmp t)) (e t))/\(∀ v,ρ (.const v)=v)/\∀ f,ρ (.func f)=.func (.func f) #[] #[]
theorem EnvR.ev {M:Nat->Prop}{N:Nat->Prop}{ρ:Operand->Value}{e:Nat->D}(h:EnvR M σ N w ρ e)(x:Operand):RepV M σ N w (ρ x) (fP e x):=by
 cases x with
 | tmp t=>exact h.1 t
 | const v=>rw [h.2.1];exact Is v
 | func f=>rw [h.2.2];exact .fn f [] [] rfl (λj u d hu=>by simp at hu)
 | global g=>exact .junk _
theorem EnvR.gd {M:Nat->Prop}{N:Nat->Prop}{ρ:Operand->Value}{e:Nat->D}(h:EnvR M σ N w ρ e)(a:List (Nat × Operand)) :
  Parts M σ N w (a.map λp=>(p.1,ρ p.2)) (a.map λp=>(p.1,fP e p.2)):=by
 refine ⟨by simp [Function.comp_def],λj v d hv hd=>?_⟩;simp only [List.map_map,aM,bU] at hv hd;obtain ⟨p,c,rfl⟩:=hv;obtain ⟨q,b,rfl⟩:=hd;rw [c] at b;cases b
 exact h.ev p.2
theorem KP (m:Rel M0 H σ w)(a:Nat):Rel M0 (H.frz a) σ w/\Keeps (dQ M0 H σ) σ H.D w (dQ M0 (H.frz a) σ) σ (H.frz a).D w/\(H.frz a).D=H.D /\
  ∀ i,((H.frz a).get i).map (·.P)=(H.get i).map (·.P)/\(∀ k,H.get i=some k->k.fz=true\/i=a->∃ k',(H.frz a).get i=some k'/\k'.fz=true/\k'.P=k.P):=by
 unfold AHeap.frz;cases r:H.get a with
 | none =>
  refine ⟨m,.refl _ _ _ _,rfl,λi=>⟨rfl,λk hik h=>?_⟩⟩;grind
 | some k =>
  simp only;have c:∀ i,((H.put a { k with fz:=true }).get i).map (·.P)=(H.get i).map (·.P)/\(∀ k0,H.get i=some k0->k0.fz=true\/i=a->∃ k',(H.put a { k with fz:=true }).get i=some k'/\k'.fz=true/\k'.P=k0.P):=by
   intro i;by_cases s:i=a
   .subst s;refine ⟨by simp [AHeap.put,r],λk0 h0 _=>⟨{ k with fz:=true },by simp [AHeap.put],rfl,?_⟩⟩;grind
   .refine ⟨by simp [AHeap.put,s],λk0 h0 h=>?_⟩;rcases h with h|h
    .exact ⟨k0,by simp [AHeap.put,s,h0],h,rfl⟩
    grind
  by_cases v:k.fz=false
  .obtain ⟨o,u,l⟩:=m.aj a k r;obtain ⟨x,d,z,e⟩:=l.row;have p:=Rel.put m (w':=w) r v u { k with fz:=true } o ⟨rfl,rfl,rfl,bF _,λ_ _ _=>rfl⟩ (λb hb=>.inl hb) (.inl rfl) l.ah l.ty l.Y l.F x d z e;simp only [Hv o a u] at p;exact ⟨p.1,p.2.2,rfl,c⟩
  .have y:H.put a { k with fz:=true } = H:=by
    have f:k.fz=true:=by simpa using v
    have q:({ k with fz:=true }:Blk)=k:=by cases k;simp at f;subst f;rfl
    obtain ⟨n,A,g⟩:=H;simp only [AHeap.put,q,AHeap.mk.injEq,true_and];grind
   rw [y] at c ⊢;exact ⟨m,.refl _ _ _ _,rfl,c⟩
theorem gJ (a:List Nat):∀ {H:AHeap},Rel M0 H σ w->Rel M0 (f5 a H) σ w/\Keeps (dQ M0 H σ) σ H.D w (dQ M0 (f5 a H) σ) σ (f5 a H).D w/\(f5 a H).D=H.D /\
  ∀ i,((f5 a H).get i).map (·.P)=(H.get i).map (·.P)/\(∀ k,H.get i=some k->k.fz=true\/i∈a->∃ k',(f5 a H).get i=some k'/\k'.fz=true/\k'.P=k.P):=by
 induction a with
 | nil=>intro H o;exact ⟨o,.refl _ _ _ _,rfl,λi=>⟨rfl,λk e h=>⟨k,e,by simpa using h,rfl⟩⟩⟩
 | cons id a ih =>
  intro H o;obtain ⟨v,u,t,l⟩:=KP o id;obtain ⟨z,y,x,m⟩:=ih v;refine ⟨z,u.trans y,x.trans t,λi=>⟨(m i).1.trans (l i).1,λk e h=>?_⟩⟩;rcases h with h|h
  .obtain ⟨c,r,q,p⟩:=(l i).2 k e (.inl h);obtain ⟨b,j,g,f⟩:=(m i).2 c r (.inl q);exact ⟨b,j,g,f.trans p⟩
  .rcases aV.1 h with rfl|h
   .obtain ⟨c,r,q,p⟩:=(l i).2 k e (.inr rfl);obtain ⟨b,j,g,f⟩:=(m i).2 c r (.inl q);exact ⟨b,j,g,f.trans p⟩
   .have n:=(l i).1;rw [e] at n;cases d:(H.frz id).get i with
    | none=>rw [d] at n;cases n
    | some c =>
     obtain ⟨b,j,g,f⟩:=(m i).2 c d (.inr h);refine ⟨b,j,g,f.trans ?_⟩;simp_all
theorem B1 {v:Value}{e n:Nat}{k:Blk}(x:Rel M0 H σ w)(C:RepV (dQ M0 H σ) σ H.D w v (.own e n))(F:H.get e=some k)(N:k.fz=true)(L:k.P.length=n) :
  RepV (dQ M0 H σ) σ H.D w v (.list k.P):=by
 obtain ⟨o,q,l⟩:=x.aj e k F;obtain ⟨A,b,m,c⟩:=l.row;cases C
 rename_i Q O h;rcases h o q with R|⟨P,rfl⟩
 .have:=l.ah;omega
 .rcases b.2 with ⟨f,I⟩|⟨g,y,J,a,_,_,r,s,_⟩
  .rw [f,bJ I];exact .listN
  .have d:o.block=some g:=by simp [Ow.block,a,Value.ownBlock]
   rw [a];refine .list ⟨g,0,none⟩ y o.F A k.P r s l.F c.len m (λj u hu=>⟨?_,b.cells (g:=g) (by simpa [Ow.block] using d) j u hu⟩) c.Z;rintro (D|⟨i,K,B,E,G,p,t⟩)
   .exact (x.lt e o g q d).2 D
   .have M:=x.inj i e B o g p q t d;grind
theorem OV {M:Nat->Prop}{N:Nat->Prop}{ad:Addr}{g sz:Nat}{es:UE}{a b:Nat}(h:RepV M σ N w (.slice (some ad) es.length g) (.list es))(k:∀ c∈es,c.length=sz)(A:a<=b)(K:b<=es.length) :
  RepV M σ N w (.slice (some (if g=a then ad else ad.add (a * sz))) (b - a) (g - a)) (.list ((es.take b).drop a)):=by
 rcases uA h with ⟨F,_⟩|⟨G,v,z,y,E,i,o,l,B,J,s⟩
 .cases F
 .cases E
  have n:((es.take b).drop a).length=b - a:=by simp;omega
  have m:∀ c∈(es.take b).drop a,c.length=sz:=λc hc=>k c (dE (eU hc));have f:((es.take b).drop a).flatten=(es.flatten.take (b * sz)).drop (a * sz):=by
   rw [qM _ a (λc hc=>k c (dE hc)),qL _ b k]
  by_cases q:g=a
  .have r:b=a:=aD;subst r;have t:(es.take b).drop b=[]:=iR (by simp;omega);have:=RepV.list (M:=M) (σ:=σ) (N:=N) (w:=w) ad (b - b) 0 [] [] aE aE aE rfl aE (λj u e=>by simp at e) (λj u d e=>by simp at e);grind
  .rw [if_neg q];have I:=RepV.list (M:=M) (σ:=σ) (N:=N) (w:=w) (ad.add (a * sz)) (g - a) sz ((y.take (b * sz)).drop (a * sz)) ((es.take b).drop a) (by rw [n];omega) aD m
    (by rw [f];simp [i.len]) (λu e=>o u (dE (eU e))) (λj u e=>by
     rw [cJ,b8] at e;split at e
     .obtain ⟨O,L⟩:=l _ u e;rw [i6,AC];grind
     .cases e) (λj u d e p=>by
     rw [f,cJ,b8] at p;rw [cJ,b8] at e;split at e
     .rename_i C;rw [if_pos C] at p;exact i.Z _ u d e p
     .cases e)
   grind
theorem QX {v:Value}{i n f m:Nat}{k:Blk}(x:Rel M0 H σ w)(z:RepV (dQ M0 H σ) σ H.D w v (.win i n f m))(t:H.get i=some k)(A:k.fz=true)(s:k.P.length=n) :
  RepV (dQ M0 H σ) σ H.D w v (.list ((k.P.take m).drop f)):=by
 obtain ⟨o,D,l⟩:=x.aj i k t;have r:=l.ah;cases z
 rename_i E B j h;have q:TW o v n f m:=by
  grind
 have a:RepV (dQ M0 H σ) σ H.D w o.val (.list k.P):=by
  refine B1 (n:=n) x (.own o.val i n B ?_ λo' ho'=>?_) t A s
  .rcases q with ⟨g,_⟩|⟨b,p,g,_⟩<;>rw [g]<;>rfl
  grind
 rcases q with ⟨g,y,C⟩|⟨b,p,g,u,y⟩
 .subst y C;simpa using RepV.listN
 .rw [g,<- s] at a;have:=OV a (λc u=>l.F c u) j.1 aD;have e:(Addr.add ⟨b,0,none⟩ (f * o.F))=⟨b,f * o.F,none⟩:=by simp [jD]
  grind
theorem q8 {H H':AHeap}(h:∀ i,(H'.get i).map (·.P)=(H.get i).map (·.P))(d:D):fW H' d=fW H d:=by
 cases d<;>try rfl
 .rename_i a n;simp only [fW];grind
 .rename_i a n b c;simp only [fW];grind
theorem nS {v:Value}{d:D}(h:Rel M0 H σ w)(a:RepV (dQ M0 H σ) σ H.D w v d)(g:∀ i∈l9 d,∀ k,H.get i=some k->k.fz=true) :
  RepV (dQ M0 H σ) σ H.D w v (fW H d):=by
 cases d<;>try exact a
 .rename_i c n;simp only [fW];cases e:H.get c with
  | none=>exact a
  | some k =>
   simp only;split
   .rename_i f;exact B1 h a e (g c (by simp [l9]) k e) f
   .exact a
 .rename_i c n j l;simp only [fW];cases e:H.get c with
  | none=>exact a
  | some k =>
   simp only;split
   .rename_i f;exact QX h a e (g c (by simp [l9]) k e) f
   .exact a
theorem nQ {v:Value}{d:D}(t:Rel M0 H σ w)(e:RepV (dQ M0 H σ) σ H.D w v d)(a:List Nat)(h:∀ i∈eG d,i∈a) :
  RepV (dQ M0 (f5 a H) σ) σ (f5 a H).D w v (jG H d):=by
 obtain ⟨o,z,A,m⟩:=gJ a t;have b:=e.q z;have c:∀ i∈a,∀ k,(f5 a H).get i=some k->k.fz=true:=λi h k hk=>by
  have l:=(m i).1;rw [hk] at l;cases g:H.get i with
  | none=>rw [g] at l;cases l
  | some k0 =>
   grind
 cases d with
 | agg cs =>
  cases b
  rename_i p f s r;refine .agg p _ (bZ s) f λj u x hu e=>?_;rw [aM,bU] at e;obtain ⟨y,q,rfl⟩:=e;rw [<- q8 (λi=>(m i).1) y];refine nS o (r j u y hu q) λi hii k hk=>c i (h i ?_) k hk;simp only [eG,bT];grind
 | _ =>
  simp only [jG];rw [<- q8 (λi=>(m i).1)];exact nS o b λi hii k hk=>c i (h i hii) k hk
theorem Rf {md:Nat->Bool}{v:Value}{d:D}(e:Rel M0 H σ w)(c:RepV (dQ M0 H σ) σ H.D w v d)(a:List Nat)(b:∀ i∈MG md d,i∈a) :
  RepV (dQ M0 (f5 a H) σ) σ (f5 a H).D w v (Sn md H d):=by
 unfold Sn;unfold MG at b;split
 .exact c.q (gJ a e).2.1
 .rename_i h;rw [if_neg h] at b;exact nQ e c a b
theorem Fe {x:Operand}(h:jW x=true):x=.const (.slice none 0 0):=by grind [jW]
theorem HB {nid:Nat}(B:¬ H.D nid){md:Nat->Bool}{e:Nat->D}{o:Oper}{ρ:Operand->Value}(z:Rel M0 H σ w)(r:EnvR (dQ M0 H σ) σ H.D w ρ e)(h:(Gc P nid md e o H).cond) :
  (Gc P nid md e o H).X/\VP P (execOp ρ o) M0 H σ w (Gc P nid md e o H).val (Gc P nid md e o H).heap:=by
 obtain ⟨b4,op,E,b3,b1,b0⟩:=o;unfold Gc execOp at *;simp only at h ⊢;cases op<;>try (exact h.elim)
 case move x =>
  simp only at h ⊢;by_cases V:jW x=true
  .rw [if_pos V] at h ⊢;have J:=Fe V;subst J;obtain ⟨k,g⟩:=Kx (P:=P) B (x:=(Pure.pure (ρ (.const (.slice none 0 0))):Sem Value)) z (by show Result.ok (ρ _) w=_;rw [r.2.1]) h;obtain ⟨v,T,σ',hr,h3⟩:=g;have U:Result.ok (ρ (.const (.slice none 0 0))) w=Result.ok v T:=hr;injection U with e1 e2;subst e1;subst e2;exact ⟨k,_,_,σ',.inl rfl,h3⟩
  .rw [if_neg V] at h ⊢;exact ⟨trivial,ρ x,w,σ,.inl rfl,z,r.ev x,.refl _ _,.refl _ _ _ _⟩
 case assign x =>
  simp only at h ⊢;by_cases V:jW x=true
  .rw [if_pos V] at h ⊢;have J:=Fe V;subst J;obtain ⟨k,g⟩:=Kx (P:=P) B (x:=(Pure.pure (ρ (.const (.slice none 0 0))):Sem Value)) z (by show Result.ok (ρ _) w=_;rw [r.2.1]) h;obtain ⟨v,T,σ',hr,h3⟩:=g;have U:Result.ok (ρ (.const (.slice none 0 0))) w=Result.ok v T:=hr;injection U with e1 e2;subst e1;subst e2;exact ⟨k,_,_,σ',.inl rfl,h3⟩
  .rw [if_neg V] at h ⊢;exact ⟨trivial,ρ x,w,σ,.inl rfl,z,r.ev x,.refl _ _,.refl _ _ _ _⟩
 case pick c a b =>
  obtain ⟨k,g⟩:=QA z (r.ev c) (r.ev a) (r.ev b) h;exact ⟨k,by simpa using g.next⟩
 case alloc t =>
  obtain ⟨k,g⟩:=PK (P:=P) B z h;exact ⟨k,g.next⟩
 case box t x =>
  obtain ⟨k,g⟩:=TI (P:=P) B z (r.ev x) h;exact ⟨k,g.next⟩
 case build t ps =>
  obtain ⟨k,g⟩:=PA (P:=P) z (r.gd ps.toList) h;refine ⟨k,?_⟩;have:=g.next;rw [show (List.map (λp=>(p.1,ρ p.2)) ps.toList).toArray=ps.map (λp=>(p.1,ρ p.2)) by rw [<- Array.toList_map]] at this;exact this
 case buildSlice t n ps =>
  obtain ⟨f1,f2,f3,f4⟩:=gJ (ps.toList.flatMap λp=>MG md (fP e p.2)) z;have M:Parts (dQ M0 (f5 (ps.toList.flatMap λp=>MG md (fP e p.2)) H) σ) σ (f5 (ps.toList.flatMap λp=>MG md (fP e p.2)) H).D w
    (ps.toList.map λp=>(p.1,ρ p.2)) (ps.toList.map λp=>(p.1,Sn md H (fP e p.2))):=by
   refine ⟨by simp [Function.comp_def],λj v d S N=>?_⟩;simp only [List.map_map,aM,bU] at S N;obtain ⟨p,hp,rfl⟩:=S;obtain ⟨q,hq,rfl⟩:=N;rw [hp] at hq;cases hq
   exact Rf z (r.ev p.2) _ λi W=>bT.2 ⟨p,aK hp,W⟩
  obtain ⟨k,g⟩:=Eu (P:=P) (by rw [f3];exact B) f1 M h;refine ⟨k,?_⟩;have:=g.next;rw [show (List.map (λp=>(p.1,ρ p.2)) ps.toList).toArray=ps.map (λp=>(p.1,ρ p.2)) by rw [<- Array.toList_map]] at this;obtain ⟨v,T,σ',a1,a2,a3,a4,a5⟩:=this;exact ⟨v,T,σ',a1,a2,a3,a4,f2.trans a5⟩
 case load t a =>
  obtain ⟨k,g⟩:=QH (P:=P) z (r.ev a) h;exact ⟨k,g.next⟩
 case store t a v =>
  have Z:∀ (G:AHeap) (Q R:D),Rel M0 G σ w->Keeps (dQ M0 H σ) σ H.D w (dQ M0 G σ) σ G.D w->RepV (dQ M0 G σ) σ G.D w (ρ a) Q->RepV (dQ M0 G σ) σ G.D w (ρ v) R ->
    (nC P t Q R G).cond->(nC P t Q R G).X/\VP P (do Instr.storeAt t (ρ a) (ρ v);Pure.pure Next.skip) M0 H σ w (nC P t Q R G).val (nC P t Q R G).heap:=by
   intro G Q R a8 a9 a6 a7 F;have g:=Ny (P:=P) a8 a6 a7 F;have X:(nC P t Q R G).X/\(nC P t Q R G).val=.junk:=by
    simp only [nC] at F ⊢;split at F
    .split at F
     .split at F
      .exact ⟨trivial,rfl⟩
      .exact F.elim
     .exact F.elim
    .exact F.elim
   refine ⟨X.1,?_⟩;rw [X.2];obtain ⟨v',T,σ',a1,a2,a3,a4,a5⟩:=g.next;exact ⟨v',T,σ',a1,a2,a3,a4,a9.trans a5⟩
  simp only at h ⊢;by_cases hm:md 1000000=true
  .rw [if_pos hm] at h ⊢;obtain ⟨f1,f2,f3,f4⟩:=gJ (eG (fP e v)) z;exact Z _ _ _ f1 f2 ((r.ev a).q f2) (nQ z (r.ev v) _ λi W=>W) h
  .rw [if_neg hm] at h ⊢;exact Z H _ _ z (.refl _ _ _ _) (r.ev a) (r.ev v) h
 case nilCheck x =>
  obtain ⟨a,k,g,h3,h4⟩:=HE z (r.ev x) h;refine ⟨g,ρ x,w,σ,.inl ?_,by rw [h4];exact z,by rw [h4];exact h3,.refl _ _,by rw [h4];exact .refl _ _ _ _⟩;simp [k]
 case binOp op t x y t' =>
  obtain ⟨k,g⟩:=TF (P:=P) (t:=t) (ox:=x) (oy:=y) z (r.ev x) (r.ev y) h;exact ⟨k,g.next⟩
 case unOp op t x =>
  obtain ⟨k,g⟩:=T9 (P:=P) z (r.ev x) h;exact ⟨k,g.next⟩
 case convert s d x =>
  obtain ⟨k,g⟩:=JJ (P:=P) z (r.ev x) h;exact ⟨k,g.next⟩
 case makeFunc fn first caps =>
  cases fn<;>try (exact h.elim)
  rename_i f;simp only at h ⊢;by_cases X:first.isEmpty=true
  .rw [if_pos X];have:first=#[]:=by simpa using X
   subst this;refine ⟨trivial,⟨.func (.func f) #[] (caps.toList.map ρ).toArray,w,σ,.inl (by simp [Instr.makeFunc];rw [<- Array.toList_map]),z,.fn f _ _ aE (λj u d hu N=>?_),.refl _ _,.refl _ _ _ _⟩⟩;simp only [aM,bU] at hu N;obtain ⟨p,hp,rfl⟩:=hu;obtain ⟨q,hq,rfl⟩:=N;rw [hp] at hq;cases hq
   exact r.ev p
  .rw [if_neg X] at h;exact h.elim
 case makeSlice t l c =>
  obtain ⟨k,g⟩:=QG (P:=P) B z (r.ev l) (r.ev c) h;exact ⟨k,g.next⟩
 case slice t x lo W mx =>
  cases mx with
  | some m=>exact h.elim
  | none =>
   obtain ⟨k,g⟩:=NC (P:=P) (vlo:=lo.map ρ) (vhi:=W.map ρ) z (r.ev x) (λv d S N=>by
    cases lo with
    | none=>cases S
    | some o=>cases S;cases N;exact r.ev o) (by cases lo<;>rfl) (λv d S N=>by
    cases W with
    | none=>cases S
    | some o=>cases S;cases N;exact r.ev o) (by cases W<;>rfl) h
   exact ⟨k,g.next⟩
 case fieldAddr t x f =>
  obtain ⟨k,g⟩:=F3 (P:=P) z (r.ev x) h;exact ⟨k,g.next⟩
 case indexAddr t x i =>
  obtain ⟨k,g⟩:=FU (P:=P) z (r.ev x) (r.ev i) h;exact ⟨k,g.next⟩
 case index t x i =>
  obtain ⟨k,g⟩:=O4 (P:=P) z (r.ev x) (r.ev i) h;exact ⟨k,g.next⟩
 case extract t i =>
  obtain ⟨k,g⟩:=JE (P:=P) z (r.ev t) h;exact ⟨k,g.next⟩
 case call c =>
  obtain ⟨O,C,ts⟩:=c;cases O<;>try (exact h.elim)
  rename_i b;obtain ⟨C⟩:=C;obtain ⟨ts⟩:=ts;simp only [List.map_toArray,resolve,invoke,VP,Sem.run_bind,Sem.run_pure,Result.andThen_ok] at h ⊢;unfold xP at *;split at h
  .rename_i xd td K;match C,K with
   | [ox],K =>
    cases K
    obtain ⟨k,g⟩:=To (P:=P) (ty:=E) z (r.ev ox) h;exact ⟨k,by simpa [VP,builtin] using g.next⟩
  .rename_i xd yd td b2 K;match C,K with
   | [ox,oy],K =>
    cases K
    obtain ⟨k,g⟩:=JQ (P:=P) B (ty:=E) z (r.ev ox) (r.ev oy) h;exact ⟨k,by simpa [VP,builtin] using g.next⟩
  .rename_i xd td K;match C,K with
   | [ox],K =>
    cases K
    obtain ⟨k,g⟩:=Pw (P:=P) (ty:=E) z (r.ev ox) h;exact ⟨k,by simpa [VP,builtin] using g.next⟩
  .rename_i x y J;match C,J with
   | [ox,oy],J =>
    cases J
    obtain ⟨k,g⟩:=KC (P:=P) (b:=.min) (mx:=false) (t:=E)  rfl z (r.ev ox) (r.ev oy) h;exact ⟨k,by simpa [VP,builtin] using g.next⟩
  .rename_i x y J;match C,J with
   | [ox,oy],J =>
    cases J
    obtain ⟨k,g⟩:=KC (P:=P) (b:=.max) (mx:=true) (t:=E)  rfl z (r.ev ox) (r.ev oy) h;exact ⟨k,by simpa [VP,builtin] using g.next⟩
  .exact h.elim
end
end Go.Abs
end

/- The abstraction layer, part I: the operations that only comp -/
import Derived.Test.YtmaibfgcngmjhaaGreatZeAB
set_option linter.unusedVariables false
set_option linter.unusedSimpArgs false
section
namespace Go.Abs
section
variable {P:Program} {M0:Nat→Prop} {H:AHeap} {σ:Nat→Option Ow} {w:World}
theorem XH {M:Nat->Prop}{N:Nat->Prop}{v:Value}{cs:Xa2}(c:Nat)(h:RepV M σ N w v (.adr cs)) :
  ∃ a,v=.pointer (some a)/\RepV M σ N w (.pointer (some (a.add c))) (.adr (cs.drop c)):=by
 obtain ⟨i,f,rfl,b,g,e⟩:=Og h;refine ⟨i,rfl,.adr _ (f.drop c) _ (by simp [b.len]) (λu hu=>g u (cQ hu)) (λj u hu=>?_) λj u d hu hd=>?_⟩
 .rw [bV] at hu;obtain ⟨l,k⟩:=e _ u hu;rw [jD,BE];grind
 .rw [bV] at hu hd;exact b.Y _ u d hu hd
theorem Tq {v:Value}{c ver i a:Nat}{k:Blk}(g:Rel M0 H σ w)(d:RepV (dK M0 H σ) σ H.J w v (.ptr c ver i a))(f:H.get c=some k)(j:k.es.length=ver) :
  ∃ b o,σ c=some o/\o.block=some b/\v=.pointer (some ⟨b,i * o.K+a,none⟩)/\H.J c/\o.af=ver:=by
 obtain ⟨o,m,l⟩:=g.ah c k f;cases d
 rename_i p n h;have e:o.af=k.es.length:=l.af;grind
theorem GM {v:Value}{x:D}{c:Nat}(l:Rel M0 H σ w)(h:RepV (dK M0 H σ) σ H.J w v x)(e:(eT x c H).cond) :
  ∃ a,v=.pointer (some a)/\RepV (dK M0 H σ) σ H.J w (.pointer (some (a.add c))) (eT x c H).val/\(eT x c H).heap=H/\(eT x c H).aa:=by
 unfold eT at *;cases x<;>try (exact e.elim)
 case adr cs =>
  obtain ⟨a,s,r⟩:=XH c h;grind
 case ptr id ver i o =>
  cases f:H.get id with
  | none=>simp [f,AOut.bad] at e
  | some k =>
   simp only [f] at e ⊢;obtain ⟨b,n,p,q,rfl,m,j⟩:=Tq l h f e;refine ⟨_,rfl,?_,trivial,trivial⟩;rw [jL];refine .ptr _ id ver i (o+c) m rfl λo' ho'=>?_;grind
theorem G8 {t:TypeId}{z:Value}{x:D}{f:Nat}(C:Rel M0 H σ w)(F:RepV (dK M0 H σ) σ H.J w z x)(k:(jF P t x f H).cond) :
  (jF P t x f H).aa/\OpS P (Instr.fieldAt t z f) M0 H σ w (jF P t x f H).val (jF P t x f H).heap:=by
 unfold jF at *;cases m:bk P t with
 | none=>simp [m,AOut.bad] at k
 | some b =>
  cases b with
  | ar p=>simp [m,AOut.bad] at k
  | st l =>
   simp only [m] at k ⊢;cases B:l[f]? with
   | none=>simp [B,AOut.bad] at k
   | some q =>
    obtain ⟨g,p⟩:=q;simp only [B] at k ⊢;obtain ⟨a,rfl,o,J,j⟩:=GM C F k.1;refine ⟨j,?_⟩;rw [J];unfold bk at m;cases u:P.underlying t with
    | none=>simp [u] at m
    | some L =>
     rw [u] at m;cases L<;>simp at m
     rename_i K;have I:∃ d,K[f]?=some d/\∃ i,P.info? d.type=some i/\g=d.offset/\p=i.size:=by
      have E:∀ (d:List Field) (l:List (Nat × Nat)) (f:Nat),d.mapM (λf=>(P.info? f.type).map λi=>(f.offset,i.size))=some l->l[f]?=some (g,p) ->
        ∃ x,d[f]?=some x/\∃ i,P.info? x.type=some i/\g=x.offset/\p=i.size:=by
       intro d;induction d with
       | nil=>intro l f h A;simp at h;subst h;simp at A
       | cons a d ih =>
        intro l f h A;simp only [List.mapM_cons,Option.bind_eq_bind,Option.pure_def] at h;cases s:P.info? a.type with
        | none=>simp [s] at h
        | some i =>
         cases G:d.mapM (λf=>(P.info? f.type).map λi=>(f.offset,i.size)) with
         | none=>simp [s,G] at h
         | some rest =>
          grind
      grind
     obtain ⟨d,y,i,s,rfl,rfl⟩:=I;have v:i.size≠0:=by have:=k.2;omega
     exact .pure C (by simp [Instr.fieldAt,run_underlying u,y,Instr.sureAddr,fieldPlace,sizeOf,typeInfo,s,v]) o
theorem QT {t:TypeId}{n sz:Nat}(h:XE P t=some (n,sz)):∃ e i,P.underlying t=some (.array n e)/\P.info? e=some i/\i.size=sz:=by grind [XE]
theorem G5 {t:TypeId}{W vi:Value}{x i:D}(R:Rel M0 H σ w)(Q:RepV (dK M0 H σ) σ H.J w W x)(hi:RepV (dK M0 H σ) σ H.J w vi i)(B:(jE P t x i H).cond) :
  (jE P t x i H).aa/\OpS P (Instr.indexAt t W vi) M0 H σ w (jE P t x i H).val (jE P t x i H).heap:=by
 unfold jE at *;cases i<;>try (exact B.elim)
 rename_i kd n;cases hi
 have L:∀ (x:D),RepV (dK M0 H σ) σ H.J w W x->(match XE P t with
   | some (len,sz)=>(⟨(eT x (n.toNat * sz) H).cond/\0<=n/\n<len,(eT x (n.toNat * sz) H).aa,(eT x (n.toNat * sz) H).val,(eT x (n.toNat * sz) H).heap⟩:AOut)
   | none=>AOut.bad H).cond->(match XE P t with
   | some (len,sz)=>(⟨(eT x (n.toNat * sz) H).cond/\0<=n/\n<len,(eT x (n.toNat * sz) H).aa,(eT x (n.toNat * sz) H).val,(eT x (n.toNat * sz) H).heap⟩:AOut)
   | none=>AOut.bad H).aa/\OpS P (Instr.indexAt t W (.int kd n)) M0 H σ w (match XE P t with
   | some (len,sz)=>(⟨(eT x (n.toNat * sz) H).cond/\0<=n/\n<len,(eT x (n.toNat * sz) H).aa,(eT x (n.toNat * sz) H).val,(eT x (n.toNat * sz) H).heap⟩:AOut)
   | none=>AOut.bad H).val (match XE P t with
   | some (len,sz)=>(⟨(eT x (n.toNat * sz) H).cond/\0<=n/\n<len,(eT x (n.toNat * sz) H).aa,(eT x (n.toNat * sz) H).val,(eT x (n.toNat * sz) H).heap⟩:AOut)
   | none=>AOut.bad H).heap:=by
  intro x Q B;cases ha:XE P t with
  | none=>simp [ha,AOut.bad] at B
  | some q =>
   obtain ⟨len,sz⟩:=q;simp only [ha] at B ⊢;obtain ⟨h1,K,S⟩:=B;obtain ⟨a,rfl,A,hh,N⟩:=GM R Q h1;refine ⟨N,?_⟩;rw [hh];obtain ⟨e,i,h,a3,p⟩:=QT ha;exact .pure R (by simp [Instr.indexAt,run_underlying h,asIntOf,Instr.sureAddr,K,S,sizeOf,typeInfo,a3,p]) A
 cases x<;>try (exact L _ Q B)
 case list es =>
  cases G:sl P t with
  | none=>simp [G,AOut.bad] at B
  | some s =>
   simp only [G] at B ⊢;obtain ⟨⟨h0,h1⟩,K⟩:=B;obtain ⟨h,ti,z,M,hz,p,_,a0,_⟩:=tM G;obtain ⟨q,rfl⟩:=fE h0;simp only [Int.toNat_natCast] at K ⊢;have I:q<es.length:=bL;have J:es[q]?=some es[q]:=aA I;rw [J] at K ⊢;simp only [aF] at K ⊢;refine ⟨trivial,?_⟩;rcases uX Q with ⟨rfl,rfl⟩|⟨ad,a5,sz,xs,rfl,A,Z,O,a2,hm,E⟩
   .simp at I
   .have U:sz=s.sz:=(E _ (aC I)).symm.trans K;subst U;have a4:=lP es E;have Y:q * s.sz+s.sz<=xs.length:=by
     rw [A.len,a4];have:(q+1) * s.sz<=es.length * s.sz:=c9 _ I;rw [Nat.add_mul] at this;omega
    refine .pure R (v:=.pointer (some (ad.add (q * s.sz)))) (by simp [Instr.indexAt,run_underlying h,asIntOf,I,sizeOf,typeInfo,M,p]) ?_;refine .adr _ ((xs.drop (q * s.sz)).take s.sz) _ (by simp only [bT,dV];omega) (λu h=>Z u (cQ (bJ h))) (λj u h=>?_) λj u d h hd=>?_
    .rw [bX] at h;split at h
     .rw [bV] at h;obtain ⟨h5,h6⟩:=O _ u h;rw [jD,BE];exact ⟨h5,h6⟩
     .cases h
    .rw [bX] at h;split at h
     .rename_i hj;rw [bV] at h;exact A.Y _ u d h (by rw [l7 es q _ E J j hj];exact hd)
     .cases h
 case own id m =>
  cases G:sl P t with
  | none=>simp [G,AOut.bad] at B
  | some s =>
   cases X:H.get id with
   | none=>simp [G,X,AOut.bad] at B
   | some k =>
    simp only [G,X] at B ⊢;obtain ⟨⟨h0,h1⟩,K,S⟩:=B;obtain ⟨h,ti,z,M,hz,p,_,a0,_⟩:=tM G;obtain ⟨q,rfl⟩:=fE h0;simp only [Int.toNat_natCast] at S ⊢;have I:q<k.es.length:=bL;have a1:q<m:=bL;refine ⟨trivial,?_⟩;obtain ⟨o,ho,l⟩:=R.ah id k X;have V:o.K=s.sz:=by
     rw [aA I] at S;simp only [aF] at S;exact (l.K _ (aC I)).symm.trans S
    have hN:H.J id:=by cases Q;assumption
    rcases Tv R Q X K with ⟨rfl,rfl⟩|⟨b,a5,rfl,a2,hm,o',F,hb,_,T⟩
    .omega
    .rw [ho] at F;cases F
     refine .pure R (v:=.pointer (some ⟨b,q * s.sz,none⟩)) (by simp [Instr.indexAt,run_underlying h,asIntOf,a1,sizeOf,typeInfo,M,p,jL]) ?_;refine .ptr _ id m q 0 hN rfl λo' F=>?_;rw [ho] at F;cases F
     exact .inr ⟨T.symm,b,hb,by rw [V];simp⟩
theorem PM {i k j:Value}{c a b:D}(g:Rel M0 H σ w)(e:RepV (dK M0 H σ) σ H.J w i c)(m:RepV (dK M0 H σ) σ H.J w k a)(l:RepV (dK M0 H σ) σ H.J w j b)
  (f:(xP c a b H).cond):(xP c a b H).aa/\OpS P (do pure (if <- asBool i then k else j)) M0 H σ w (xP c a b H).val (xP c a b H).heap:=by
 unfold xP at *
 split at f
 .cases e;cases m
  exact ⟨trivial,.pure g (by simp [asBool]) (.bool _)⟩
 .cases e;cases m
  rename_i h
  have:=h f
  cases this
  exact ⟨trivial,.pure g (by simp [asBool]) (.bool _)⟩
 .cases e;cases l
  exact ⟨trivial,.pure g (by simp [asBool]) (.bool _)⟩
 .cases e;cases l
  rename_i h
  have:=h f
  cases this
  exact ⟨trivial,.pure g (by simp [asBool]) (.bool _)⟩
 .exact f.elim
theorem R3 {l n m:Value}{c a b:D}(f:Rel M0 H σ w)(e:RepV (dK M0 H σ) σ H.J w l c)(k:RepV (dK M0 H σ) σ H.J w n a)(j:RepV (dK M0 H σ) σ H.J w m b)
  (i:(BG c a b H).cond):(BG c a b H).aa/\OpS P (do pure (if <- asBool l then n else m)) M0 H σ w (BG c a b H).val (BG c a b H).heap:=by
 unfold BG at *
 split at i
 .rename_i c a b
  cases e;cases k;cases j
  cases c<;>exact ⟨trivial,.pure f (by simp [asBool]) (.bool _)⟩
 .rename_i c a g b
  cases e;cases k;cases j
  rename_i h
  cases c with
  | true=>exact ⟨trivial,.pure f (by simp [asBool]) (.bool _)⟩
  | false =>
   have:=h (i rfl)
   cases this
   exact ⟨trivial,.pure f (by simp [asBool]) (.bool _)⟩
 .rename_i c g a b
  cases e;cases k;cases j
  rename_i h
  cases c with
  | false=>exact ⟨trivial,.pure f (by simp [asBool]) (.bool _)⟩
  | true =>
   have:=h (i rfl)
   cases this
   exact ⟨trivial,.pure f (by simp [asBool]) (.bool _)⟩
 .rename_i c g a r b
  cases e;cases k;cases j
  rename_i p h o q
  cases c with
  | false =>
   have:=q (i.2 rfl)
   cases this
   exact ⟨trivial,.pure f (by simp [asBool]) (.bool _)⟩
  | true =>
   have:=h (i.1 rfl)
   cases this
   exact ⟨trivial,.pure f (by simp [asBool]) (.bool _)⟩
 .exact PM f e k j i
theorem LW {mx:Bool}{b:Builtin}(i:b=if mx then .max else .min){t:TypeId}{ts:Array TypeId}{d c:Value}{x y:D}(f:Rel M0 H σ w)(h:RepV (dK M0 H σ) σ H.J w d x)(g:RepV (dK M0 H σ) σ H.J w c y)
  (e:(EC mx x y H).cond):(EC mx x y H).aa/\OpS P (if mx then Builtin.max_ ts t #[d,c] else Builtin.min_ ts t #[d,c]) M0 H σ w (EC mx x y H).val (EC mx x y H).heap:=by
 unfold EC at *;split at e
 .obtain rfl:=e;cases h;cases g
  cases mx with
  | true=>exact ⟨trivial,.pure f (by simp [Builtin.max_,Builtin.max2]) (.int _ _)⟩
  | false=>exact ⟨trivial,.pure f (by simp [Builtin.min_,Builtin.min2]) (.int _ _)⟩
 .exact e.elim
theorem KT {s d:TypeId}{h:Value}{x:D}(j:Rel M0 H σ w)(i:RepV (dK M0 H σ) σ H.J w h x)(b:(oO P s d x H).cond) :
  (oO P s d x H).aa/\OpS P (convert s d h) M0 H σ w (oO P s d x H).val (oO P s d x H).heap:=by
 unfold oO at *;split at b
 .rename_i p n;split at b
  .rename_i k c;cases i
   obtain ⟨o,m⟩:=b;obtain ⟨r,g⟩:=l8.1 o;unfold Si at c;split at c
   .rename_i q l;cases c
    exact ⟨trivial,.pure j (by simp [convert,run_underlying g,run_underlying l,Conv.intToInt,uI m]) (.int _ _)⟩
   .cases c
  .exact b.elim
 .split at b
  .rename_i f e;cases i
   exact ⟨trivial,.pure j (by simp [convert,run_underlying f,run_underlying e]) (.str _)⟩
  .exact b.elim
 .exact b.elim
theorem V6 {b:UnOp}{d:Value}{x:D}(f:Rel M0 H σ w)(e:RepV (dK M0 H σ) σ H.J w d x)(c:(XJ b x H).cond) :
  (XJ b x H).aa/\OpS P (Op.unary b d) M0 H σ w (XJ b x H).val (XJ b x H).heap:=by
 unfold XJ at *;split at c
 .cases e;exact ⟨trivial,.pure f (by simp [Op.unary]) (.bool _)⟩
 .cases e;exact ⟨trivial,.pure f (by simp [Op.unary,Op.intArith];rw [uI (cG c)]) (by simpa using RepV.int _ _)⟩
 .exact c.elim
theorem KN {c:Value}{x:D}{i:Nat}(h:Rel M0 H σ w)(e:RepV (dK M0 H σ) σ H.J w c x)(d:(oN x i H).cond) :
  (oN x i H).aa/\OpS P (Instr.extract c i) M0 H σ w (oN x i H).val (oN x i H).heap:=by
 unfold oN at *;cases x<;>try (exact d.elim)
 rename_i j;cases e
 rename_i b f k;have g:i<b.length:=by rw [f];exact d
 refine ⟨trivial,.pure h (v:=b[i]) (by simp [Instr.extract,g]) ?_⟩;grind
theorem LP {nid:Nat}(k:¬ H.J nid){m:Bool}{t:TypeId}{x:Sem Value}(h:Rel M0 H σ w)(g:x.run P w=.ok (.slice none 0 0) w)(l:(FV P nid m t H).cond) :
  (FV P nid m t H).aa/\OpS P x M0 H σ w (FV P nid m t H).val (FV P nid m t H).heap:=by
 unfold FV at *;cases m with
 | false=>exact ⟨trivial,.pure h g .nil⟩
 | true =>
  cases i:sl P t with
  | none=>simp [i,AOut.bad] at l
  | some s =>
   have f:=Rel.push h nid k (w':=w) rfl rfl rfl (aT _) (λ_ _=>rfl) ⟨s.e,s.sz,[],false⟩ ⟨0,.slice none 0 0,s.sz,s.e⟩ (λb hb=>by simp [Ow.block,Value.ownBlock] at hb) rfl rfl rfl bS
    [] (World.ownsRow_nil w 0 s.e s.sz) bS ⟨rfl,λj u d hu=>by simp at hu⟩
   refine ⟨trivial,_,w,_,g,f.1,.own _ nid 0 (.inl rfl) rfl λo ho=>?_,f.2.1,f.2.2⟩;grind
theorem IS {d:Value}{x:D}(j:Rel M0 H σ w)(g:RepV (dK M0 H σ) σ H.J w d x)(c:(kK x H).cond) :
  ∃ a,d=.pointer (some a)/\(kK x H).aa/\RepV (dK M0 H σ) σ H.J w d (kK x H).val/\(kK x H).heap=H:=by
 unfold kK at *;cases x<;>try (exact c.elim)
 case adr cs =>
  obtain ⟨r,l,rfl,_⟩:=Og g;grind
 case ptr id ver i o =>
  cases e:H.get id with
  | none=>simp [e,AOut.bad] at c
  | some k =>
   simp only [e] at c ⊢;obtain ⟨b,m,n,p,rfl,q,h⟩:=Tq j g e c;grind
end
end Go.Abs
end
section
namespace Go.Abs
section
variable {P:Program} {M0:Nat→Prop} {H:AHeap} {σ:Nat→Option Ow} {w:World}
theorem BH {M:Nat->Prop}{N:Nat->Prop}{b:Option Value}{c:Option D}{a n:Int}(h:∀ v x,b=some v->c=some x->RepV M σ N w v x)(e:b.isSome=c.isSome)(d:XR c a=some n) :
  (b=none/\n=a)\/∃ k,b=some (.int k n):=by
 cases c with
 | none=>cases b with
  | none=>simp [XR] at d;exact .inl ⟨rfl,d.symm⟩
  | some v=>simp at e
 | some x=>cases b with
  | none=>simp at e
  | some v =>
   have:=h v x rfl rfl;cases x<;>simp [XR] at d
   cases this
   grind
theorem BL {e:TypeId}{t:TypeId}(n:P.underlying t=some (.slice e)){v:TypeInfo}(f:P.info? e=some v)(a:Option Addr)(len d:Nat)(z:len<=d)(p u:Option Value)(l h:Int)
  (A:(p=none/\l=0)\/∃ k,p=some (.int k l)) (B:(u=none/\h=len)\/∃ k,u=some (.int k h)) (y:0<=l) (C:l<=h) (F:h<=len) :
  (Instr.sliceAt t (.slice a len d) p u none).run P w=.ok (.slice (if d=l.toNat then a else a.map (·.add (l.toNat * v.size))) (h.toNat - l.toNat) (d - l.toNat)) w:=by
 have g:h<=(d:Int):=bL;have o:∀ (x:Nat) (k:IntKind) (i:Int) (j:BoundsCode),0<=i->i<=(x:Int)->(Instr.sliceBound (.int k i) x j).run P w=.ok i.toNat w:=by
  intro x k i j s r;simp [Instr.sliceBound,asIntOf,s,r]
 rcases A with ⟨rfl,rfl⟩|⟨D,rfl⟩<;>rcases B with ⟨rfl,rfl⟩|⟨E,rfl⟩
 .simp [Instr.sliceAt,Instr.slice,run_underlying n,Instr.sliceBounds,sizeOf,typeInfo,f]
 .simp [Instr.sliceAt,Instr.slice,run_underlying n,Instr.sliceBounds,sizeOf,typeInfo,f,o _ _ _ _ (by omega:(0:Int)<=h) g]
 .simp [Instr.sliceAt,Instr.slice,run_underlying n,Instr.sliceBounds,sizeOf,typeInfo,f,o len _ _ _ y C]
 .have q:l<=(h.toNat:Int):=bL;simp [Instr.sliceAt,Instr.slice,run_underlying n,Instr.sliceBounds,sizeOf,typeInfo,f,o _ _ _ _ (by omega:(0:Int)<=h) g,o _ _ _ _ y q]
theorem Km {t:TypeId}(c:P.underlying t=some .string)(s:ByteArray)(e m:Option Value)(l h:Int)
  (p:(e=none/\l=0)\/∃ k,e=some (.int k l)) (q:(m=none/\h=s.size)\/∃ k,m=some (.int k h)) (o:0<=l) (r:l<=h) (n:h<=s.size) :
  (Instr.sliceAt t (.string s) e m none).run P w=.ok (.string (s.extract l.toNat h.toNat)) w:=by
 have d:∀ (x:Nat) (k:IntKind) (i:Int) (a:BoundsCode),0<=i->i<=(x:Int)->(Instr.sliceBound (.int k i) x a).run P w=.ok i.toNat w:=by
  intro x k i a j g;simp [Instr.sliceBound,asIntOf,j,g]
 rcases p with ⟨rfl,rfl⟩|⟨u,rfl⟩<;>rcases q with ⟨rfl,rfl⟩|⟨v,rfl⟩
 .simp [Instr.sliceAt,Instr.slice,run_underlying c,Instr.sliceBounds]
 .simp [Instr.sliceAt,Instr.slice,run_underlying c,Instr.sliceBounds,d _ _ _ _ (by omega:(0:Int)<=h) n]
 .simp [Instr.sliceAt,Instr.slice,run_underlying c,Instr.sliceBounds,d s.size _ _ _ o r]
 .have f:l<=(h.toNat:Int):=bL;simp [Instr.sliceAt,Instr.slice,run_underlying c,Instr.sliceBounds,d _ _ _ _ (by omega:(0:Int)<=h) n,d _ _ _ _ o f]
theorem OT {t:TypeId}{vx:Value}{x:D}{vlo vhi:Option Value}{X Y:Option D}(Z:Rel M0 H σ w)(hx:RepV (dK M0 H σ) σ H.J w vx x)
  (U:∀ v x,vlo=some v->X=some x->RepV (dK M0 H σ) σ H.J w v x) (E:vlo.isSome=X.isSome)
  (V:∀ v x,vhi=some v->Y=some x->RepV (dK M0 H σ) σ H.J w v x) (G:vhi.isSome=Y.isSome) (p:(r9 P t x X Y H).cond) :
  (r9 P t x X Y H).aa/\OpS P (Instr.sliceAt t vx vlo vhi none) M0 H σ w (r9 P t x X Y H).val (r9 P t x X Y H).heap:=by
 unfold r9 at *;split at p
 .rename_i es;split at p
  .rename_i s l h hs hl hh;obtain ⟨J,L,h2,h3⟩:=p;obtain ⟨i,ti,z,B,hz,F,_,b4,_,_,b1,_⟩:=tM hs;have T:=BH U E hl;have O:=BH V G hh;obtain ⟨a,rfl⟩:=fE J;obtain ⟨b,rfl⟩:=fE (Int.le_trans J L);simp only [Int.toNat_natCast];have b8:a<=b:=bL;have K:b<=es.length:=bL;refine ⟨trivial,?_⟩;rcases uX hx with ⟨rfl,rfl⟩|⟨ad,y,sz,xs,rfl,R,a5,W,a8,hm,q⟩
   .have f:=BL (P:=P) (w:=w) i B none 0 0 (aT _) vlo vhi a b T O J L (cG h2);simp at K;subst K;have:a=0:=bL;subst this;refine .pure Z f ?_;simpa using RepV.listN
   .have f:=BL (P:=P) (w:=w) i B (some ad) es.length y a8 vlo vhi a b T O J L h2;simp only [Int.toNat_natCast,fS] at f;have S:((es.take b).drop a).length=b - a:=by simp;omega
    have a0:es≠[]->sz=s.sz:=λhne=>by
     cases es with
     | nil=>exact absurd rfl hne
     | cons e es=>simp at h3;exact (q e bS).symm.trans h3
    rw [F] at f;refine .pure Z f ?_;have a2:∀ c∈(es.take b).drop a,c.length=sz:=λc p=>q c (bJ (cQ p));have I:((es.take b).drop a).flatten=(es.flatten.take (b * sz)).drop (a * sz):=by
     rw [q8 _ a (λc p=>q c (bJ p)),q7 _ b q]
    by_cases a4:y=a
    .have b0:b=a:=bL;subst b0;simp only [a4,if_true];have r:(es.take b).drop b=[]:=iX et;rw [r];have:=RepV.list (M:=dK M0 H σ) (σ:=σ) (N:=H.J) (w:=w) ad (b - b) 0 [] [] bS bS bS rfl bS (λj u i=>by simp at i) (λj u d i=>by simp at i);simpa using this
    .rw [if_neg a4];have hv:=RepV.list (M:=dK M0 H σ) (σ:=σ) (N:=H.J) (w:=w) (ad.add (a * s.sz)) (y - a) sz ((xs.take (b * sz)).drop (a * sz)) ((es.take b).drop a) (by rw [S];omega) bL a2
      (by rw [I];simp [R.len]) (λu i=>a5 u (bJ (cQ i))) (λj u i=>by
       rw [bV,bX] at i;split at i
       .obtain ⟨h5,h6⟩:=W _ u i;rw [jD,BE];refine ⟨h5,?_⟩;rw [<- a0 (λe=>by subst e;simp at K;subst K;simp at *)];exact h6
       .cases i) (λj u d i hd=>by
       rw [I,bV,bX] at hd;rw [bV,bX] at i;split at i
       .rename_i hj;rw [if_pos hj] at hd;exact R.Y _ u d i hd
       .cases i)
     rw [S] at hv;exact hv
  .exact p.elim
 .rename_i id m;split at p
  .rename_i s k l h hs hk hl hh;obtain ⟨⟨J,L,h2⟩,a3,a9⟩:=p;obtain ⟨i,ti,z,B,hz,F,_⟩:=tM hs;have T:=BH U E hl;have O:=BH V G hh;obtain ⟨a,rfl⟩:=fE J;obtain ⟨b,rfl⟩:=fE (Int.le_trans J L);simp only [Int.toNat_natCast];obtain ⟨o,ho,lz⟩:=Z.ah id k hk;obtain ⟨xs,a1,_,_⟩:=lz.row;cases hx
   rename_i b2 hN h;refine ⟨trivial,?_⟩;rcases h o ho with h'|⟨c0,rfl⟩
   .have:=lz.af;omega
   .have C:∀ o',σ id=some o'->o'=o:=λo' ho'=>by rw [ho] at ho';exact (Option.some.inj ho').symm
    rcases a1.2 with ⟨r,b3⟩|⟨g,y,c1,Q,b7,hg,a7,b6,b5,a6⟩
    .have f:=BL (P:=P) (w:=w) i B none 0 0 (aT _) vlo vhi a b T (by rw [(bL:m=0)] at O;exact O) J L bL;have ha:a=0:=bL;have hb:b=0:=bL;subst ha hb;rw [r];refine .pure Z (cG f) (.win _ id m 0 0 hN rfl ⟨aT _,dN _⟩ λo' ho'=>.inr ⟨?_,.inl ⟨?_,rfl,rfl⟩⟩)
     .rw [C o' ho'];omega
     .rw [C o' ho'];exact r
    .have f:=BL (P:=P) (w:=w) i B (some ⟨g,0,none⟩) k.es.length y a7 vlo vhi a b T (by rw [a3];exact O) J L bL;rw [Q];refine .pure Z f ?_;refine .win _ id m a b hN rfl ⟨bL,bL⟩ λo' ho'=>.inr ⟨?_,.inr ⟨g,y,?_,bL,?_⟩⟩
     .rw [C o' ho'];omega
     .rw [C o' ho',Q,a3]
     .rw [C o' ho',lz.sz,a9,F];simp only [Int.toNat_natCast];split<;>simp [jL]
  .exact p.elim
 .rename_i s;split at p
  .rename_i l h i hl hh;obtain ⟨J,L,h2⟩:=p;cases hx
   have T:=BH U E hl;have O:=BH V G hh;exact ⟨trivial,.pure Z (Km i s vlo vhi l h T O J L h2) (.str _)⟩
  .exact p.elim
 .exact p.elim
theorem Z4 {a:Nat}{k:Blk}(b:H.get a=some k):H.put a k=H:=by
 unfold AHeap.put;have:(λi=>if i=a then some k else H.get i)=H.get:=by
  grind
 rw [this]
theorem Uj {es:Xa1}{b a:Nat}{z:Xa2}(c:b<=a)(d:a<=es.length):(es.take b++List.replicate (a - b) z++es.drop a).length=es.length:=by simp;omega
theorem Oy {n:Nat}{es:Xa1}{a b:Nat}{z:Xa2}(d:∀ c∈es,c.length=n)(f:z.length=n)(g:a<=b)(i:b<=es.length) :
  (es.take a++List.replicate (b - a) z++es.drop b).flatten=es.flatten.take (a * n)++(List.replicate (b - a) z).flatten++es.flatten.drop (a * n+(List.replicate (b - a) z).flatten.length):=by
 rw [mV,mV,q7 es a d,q8 es b d,nO,f,<- Nat.add_mul,(bL:a+(b - a)=b)]
theorem QJ {t ty:TypeId}{K:Value}{x:D}(hR:Rel M0 H σ w)(hx:RepV (dK M0 H σ) σ H.J w K x)(Y:(xQ P t x H).cond) :
  (xQ P t x H).aa/\OpS P (Builtin.clear_ #[t] ty #[K]) M0 H σ w (xQ P t x H).val (xQ P t x H).heap:=by
 unfold xQ at *;split at Y
 .rename_i id ver lo hi;split at Y
  .rename_i s k hs hk;obtain ⟨a4,Q,b7,a2⟩:=Y;obtain ⟨hu,ti,z,a1,hz,b1,_,b8,_,L,i,S,a0⟩:=tM hs;obtain ⟨o,ho,l⟩:=hR.ah id k hk;obtain ⟨J,T,O,c⟩:=l.row;have c0:=l.af;cases hx
   rename_i a9 hN W h;have hw:S8 o K ver lo hi:=by
    rcases h o ho with h'|⟨_,G⟩
    .omega
    .exact G
   have E:lo=hi->(k.es.take lo++List.replicate (hi - lo) s.z++k.es.drop hi)=k.es:=λe=>by subst e;simp
   have R:RepV (dK M0 H σ) σ H.J w (.tuple #[]) (.tup []):=.tup [] [] rfl (λj u d hu hd=>by simp at hu);refine ⟨trivial,?_⟩;have m:lo=hi->(Builtin.clear_ #[t] ty #[K]).run P w=.ok (.tuple #[]) w->OpS P (Builtin.clear_ #[t] ty #[K]) M0 H σ w (.tup []) (H.put id { k with es:=k.es.take lo++List.replicate (hi - lo) s.z++k.es.drop hi }):=λe n=>by
    rw [E e,Z4 hk];exact .pure hR n R
   rcases hw with ⟨G,rfl,h4⟩|⟨b,I,G,b4,rfl⟩
   .exact m bL (by simp [Builtin.clear_,run_underlying hu])
   .by_cases he:lo=hi
    .refine m he ?_;subst he;simp [Builtin.clear_,run_underlying hu]
    .have hcl:I≠lo:=bL;rw [if_neg hcl];rcases T.2 with ⟨A,_⟩|⟨g,b5,a,y,a7,hg,V,a6,a5,C⟩
     .rw [G] at A;cases A
     .rw [G] at y;cases y
      have v:o.K=s.sz:=l.sz.trans a2;have b6:J.length=k.es.length * o.K:=c.len.trans (lP k.es l.K);have b3:k.es.length * o.K<=a.size:=by rw [a5];exact c9 _ V
      obtain ⟨hr,h1⟩:=sC (M:=dK M0 H σ) (σ:=σ) (N:=H.J) (w:=w) z (hi - lo) bL (by rw [<- L];exact a0);rw [<- L] at hr;have f:(madeCells z.cells ((hi - lo) * z.cells.size)).toList.length=(hi - lo) * o.K:=by simp [size_madeCells,S,v]
      have b9:(madeCells z.cells ((hi - lo) * z.cells.size)).size=(hi - lo) * o.K:=by rw [<- f,gB]
      have b0:lo * o.K+(hi - lo) * o.K=hi * o.K:=by rw [<- Nat.add_mul,(bL:lo+(hi - lo)=hi)]
      have b2:hi * o.K<=k.es.length * o.K:=c9 _ bL;have r:=run_storeCells_at (P:=P) b (lo * o.K) k.ty (madeCells z.cells ((hi - lo) * z.cells.size)).toList 0 a w hg (by rw [f];omega) h1;simp only [p7] at r;have B:∀ w,(zeroValue s.e).run P w=.ok z w:=λw=>by simp [zeroValue,typeInfo,a1,hz]
      obtain ⟨q,hq⟩:∃ q,hi - lo=q+1:=⟨hi - lo - 1,bL⟩;have n:(Builtin.clear_ #[t] ty #[.slice (some ⟨b,lo * o.K,none⟩) (hi - lo) (I - lo)]).run P w=.ok (.tuple #[]) (w.setRow b (a.toList.take (lo * o.K)++(madeCells z.cells ((hi - lo) * z.cells.size)).toList++a.toList.drop (lo * o.K+(madeCells z.cells ((hi - lo) * z.cells.size)).toList.length)).toArray):=by
       rw [hq] at r ⊢;simp only [Builtin.clear_];simp [run_underlying hu,B];have a3:Builtin.zeroCells z.cells (q+1)=madeCells z.cells ((q+1) * z.cells.size):=rfl;rw [a3];simp at r;simp [r]
      have p:=Uj (z:=s.z) W.1 (bL:hi<=k.es.length);have X:=Oy (z:=s.z) l.K (by rw [i,v]) W.1 (bL:hi<=k.es.length);have U:(List.replicate (hi - lo) s.z).flatten.length=(hi - lo) * o.K:=by rw [nO,i,v]
      have Z:=Rel.put hR hk a4 ho { k with es:=k.es.take lo++List.replicate (hi - lo) s.z++k.es.drop hi } o (w':=w.setRow b (a.toList.take (lo * o.K)++(madeCells z.cells ((hi - lo) * z.cells.size)).toList++a.toList.drop (lo * o.K+(madeCells z.cells ((hi - lo) * z.cells.size)).toList.length)).toArray)
       ⟨rfl,rfl,rfl,by simp,λq _ hq=>setRow_other w b q _ (λe=>hq (by rw [e];simp [Ow.block,G,Value.ownBlock]))⟩ (λb' a8=>.inl a8) (.inl rfl) (by rw [p];exact l.af) l.ty l.sz
       (λd hd=>by
        simp only [aQ] at hd;rcases hd with (hd|hd)|hd
        .exact l.K d (bJ hd)
        .rw [l9 hd,i,v]
        .exact l.K d (cQ hd))
       (J.take (lo * o.K)++(madeCells z.cells ((hi - lo) * z.cells.size)).toList++J.drop (lo * o.K+(madeCells z.cells ((hi - lo) * z.cells.size)).toList.length))
       ⟨by simp only [aO,bT,dV,f,p];omega,.inr ⟨b,I,_,by rw [p];simpa [Q] using G,a7,setRow_heap w b a _ k.ty _ hg,by rw [p];exact V,a6,by simp only [pB,aO,bT,dV,f,gB];omega,by
        simp only [p];rw [<- C];apply fC;intro j;simp only [bX,jZ,bT,bV,gB];by_cases hj:j<k.es.length * o.K
        .rw [if_pos hj];have m1:min (lo * o.K) a.size=lo * o.K:=bL;have m2:min (lo * o.K) (min (k.es.length * o.K) a.size)=lo * o.K:=bL;rw [m1,m2];split
         .first|rfl|rw [if_pos hj]
         .split
          .rfl
          .first|rfl|rw [if_pos bL]
        .rw [if_neg hj];have m2:min (lo * o.K) (min (k.es.length * o.K) a.size)=lo * o.K:=bL;rw [m2,if_neg bL,if_neg bL,if_neg bL]⟩⟩
       (λu hu=>by
        simp only [aQ] at hu;rcases hu with (hu|hu)|hu
        .exact O u (bJ hu)
        .exact h1 u hu
        .exact O u (cQ hu))
       ⟨by simp only [X,aO,bT,dV,f,U,c.len],λj u d hu hd=>by
        simp only [X] at hd;have F:k.es.flatten.length=J.length:=c.len.symm;simp only [jZ,bT,bX,bV,F,f,U] at hu hd;have m1:min (lo * o.K) J.length=lo * o.K:=bL;rw [m1] at hu hd;split at hd
        .rename_i hj1;rw [if_pos hj1] at hu;try rw [if_pos hj1] at hu
         try rw [if_pos hj1] at hd
         exact c.Y j u d hu hd
        .rename_i hj1;rw [if_neg hj1] at hu;split at hd
         .rename_i hj2;rw [if_pos hj2] at hu;exact hr.Y _ u d hu hd
         .rename_i hj2;rw [if_neg hj2] at hu;exact c.Y _ u d hu hd⟩
      simp only [IJ o id ho] at Z;exact ⟨_,_,σ,n,Z.1,.tup [] [] rfl (λj u d hu hd=>by simp at hu),Z.2.1,Z.2.2⟩
  .exact Y.elim
 .exact Y.elim
theorem Qg {t:TypeId}{A B:Value}{x i:D}(G:Rel M0 H σ w)(E:RepV (dK M0 H σ) σ H.J w A x)(F:RepV (dK M0 H σ) σ H.J w B i)(c:(vM P t x i H).cond) :
  (vM P t x i H).aa/\OpS P (Instr.index t A B) M0 H σ w (vM P t x i H).val (vM P t x i H).heap:=by
 unfold vM at *;split at c
 .rename_i s J n;split at c
  .rename_i l;obtain ⟨y,Q⟩:=c;cases E;cases F
   obtain ⟨q,rfl⟩:=fE y;have hq:q<s.size:=bL;have hq':q<s.data.size:=hq;refine ⟨trivial,.pure G (v:=.int .u8 ((s.data[q]'hq').toNat:Int)) ?_ ?_⟩
   .have:s[q]?=some (s[q]'hq):=by simp [hq]
    simp [Instr.index,asIntOf,run_underlying l,this];rfl
   .have e:s.data[q]?=some (s.data[q]'hq'):=bK hq';simp only [Int.toNat_natCast,e,aF];exact .int _ _
  .exact c.elim
 .rename_i V J n;split at c
  .rename_i I S g e M l;split at c
   .rename_i m;obtain ⟨⟨y,Q⟩,O,u⟩:=c;cases E;cases F
    rename_i z K T L;obtain ⟨q,rfl⟩:=fE y;simp only [Int.toNat_natCast] at u ⊢;obtain ⟨U,R,d,r,j⟩:=QT M;rw [l] at d;simp at d;obtain ⟨rfl,rfl⟩:=d;have N:=V9 (w:=w) m;have hq:q<z.length:=bL;have o:q<g:=bL;refine ⟨trivial,.pure G (v:=z[q]) ?_ ?_⟩
    .simp [Instr.index,asIntOf,run_underlying l,o,sizeOf,typeInfo,r,j,O,part,N,hq]
    .rw [aA u];exact L q _ _ (aA hq) (aA u)
   .exact c.elim
  .exact c.elim
 .exact c.elim
end
end Go.Abs
end
section
namespace Go.Abs
section
variable {P:Program} {M0:Nat→Prop} {H:AHeap} {σ:Nat→Option Ow} {w:World}
def XY (P:Program)(x:Sem Next)(M0:Nat->Prop)(H:AHeap)(σ:Nat->Option Ow)(w:World)(d:D)(H':AHeap):Prop :=
 ∃ v w' σ',(x.run P w=.ok (.value v) w'\/(x.run P w=.ok .skip w'/\v=undef))/\Rel M0 H' σ' w'/\RepV (dK M0 H' σ') σ' H'.J w' v d/\Stp σ w σ' w' /\
  Keeps (dK M0 H σ) σ H.J w (dK M0 H' σ') σ' H'.J w'
theorem OpS.next {x:Sem Value}{d:D}{H':AHeap}(h:OpS P x M0 H σ w d H'):XY P (do Pure.pure (Next.value (<- x))) M0 H σ w d H':=by
 obtain ⟨v,a,σ',b,g,f,e,c⟩:=h;exact ⟨v,a,σ',.inl (fg b),g,f,e,c⟩
theorem OpU.next {x:Sem Unit}{H':AHeap}(h:OpU P x M0 H σ w H'):XY P (do x;Pure.pure Next.skip) M0 H σ w .junk H':=by
 obtain ⟨b,σ',c,f,e,d⟩:=h;exact ⟨undef,b,σ',.inr ⟨by simp [c],rfl⟩,f,.junk _,e,d⟩
def EnvR (M:Nat->Prop)(σ:Nat->Option Ow)(N:Nat->Prop)(w:World)(ρ:Operand->Value)(e:Nat->D):Prop :=
 (∀ t,RepV M σ N w (ρ (.tmp t)) (e t))/\(∀ v,ρ (.const v)=v)/\∀ f,ρ (.func f)=.func (.func f) #[] #[]
theorem EnvR.ev {M:Nat->Prop}{N:Nat->Prop}{ρ:Operand->Value}{e:Nat->D}(h:EnvR M σ N w ρ e)(x:Operand):RepV M σ N w (ρ x) (fI e x):=by
 cases x with
 | tmp t=>exact h.1 t
 | const v=>rw [h.2.1];exact JF v
 | func f=>rw [h.2.2];exact .fn f [] [] rfl (λj u d hu=>by simp at hu)
 | global g=>exact .junk _
theorem EnvR.dc {M:Nat->Prop}{N:Nat->Prop}{ρ:Operand->Value}{e:Nat->D}(h:EnvR M σ N w ρ e)(a:List (Nat × Operand)) :
  Parts M σ N w (a.map λp=>(p.1,ρ p.2)) (a.map λp=>(p.1,fI e p.2)):=by
 refine ⟨by simp [Function.comp_def],λj v d hv hd=>?_⟩;simp only [List.map_map,aW,bQ] at hv hd;obtain ⟨p,c,rfl⟩:=hv;obtain ⟨q,b,rfl⟩:=hd;rw [c] at b;cases b
 exact h.ev p.2
theorem Mc (m:Rel M0 H σ w)(a:Nat):Rel M0 (H.frz a) σ w/\Keeps (dK M0 H σ) σ H.J w (dK M0 (H.frz a) σ) σ (H.frz a).J w/\(H.frz a).J=H.J /\
  ∀ i,((H.frz a).get i).map (·.es)=(H.get i).map (·.es)/\(∀ k,H.get i=some k->k.fz=true\/i=a->∃ k',(H.frz a).get i=some k'/\k'.fz=true/\k'.es=k.es):=by
 unfold AHeap.frz;cases r:H.get a with
 | none =>
  refine ⟨m,.refl _ _ _ _,rfl,λi=>⟨rfl,λk hik h=>?_⟩⟩;grind
 | some k =>
  simp only;have c:∀ i,((H.put a { k with fz:=true }).get i).map (·.es)=(H.get i).map (·.es)/\(∀ k0,H.get i=some k0->k0.fz=true\/i=a->∃ k',(H.put a { k with fz:=true }).get i=some k'/\k'.fz=true/\k'.es=k0.es):=by
   intro i;by_cases s:i=a
   .subst s;refine ⟨by simp [AHeap.put,r],λk0 h0 _=>⟨{ k with fz:=true },by simp [AHeap.put],rfl,?_⟩⟩;grind
   .refine ⟨by simp [AHeap.put,s],λk0 h0 h=>?_⟩;rcases h with h|h
    .exact ⟨k0,by simp [AHeap.put,s,h0],h,rfl⟩
    grind
  by_cases v:k.fz=false
  .obtain ⟨o,u,l⟩:=m.ah a k r;obtain ⟨x,d,z,e⟩:=l.row;have p:=Rel.put m (w':=w) r v u { k with fz:=true } o ⟨rfl,rfl,rfl,aT _,λ_ _ _=>rfl⟩ (λb hb=>.inl hb) (.inl rfl) l.af l.ty l.sz l.K x d z e;simp only [IJ o a u] at p;exact ⟨p.1,p.2.2,rfl,c⟩
  .have y:H.put a { k with fz:=true } = H:=by
    have f:k.fz=true:=by simpa using v
    have q:({ k with fz:=true }:Blk)=k:=by cases k;simp at f;subst f;rfl
    obtain ⟨n,A,g⟩:=H;simp only [AHeap.put,q,AHeap.mk.injEq,true_and];grind
   rw [y] at c ⊢;exact ⟨m,.refl _ _ _ _,rfl,c⟩
theorem fQ (a:List Nat):∀ {H:AHeap},Rel M0 H σ w->Rel M0 (fH a H) σ w/\Keeps (dK M0 H σ) σ H.J w (dK M0 (fH a H) σ) σ (fH a H).J w/\(fH a H).J=H.J /\
  ∀ i,((fH a H).get i).map (·.es)=(H.get i).map (·.es)/\(∀ k,H.get i=some k->k.fz=true\/i∈a->∃ k',(fH a H).get i=some k'/\k'.fz=true/\k'.es=k.es):=by
 induction a with
 | nil=>intro H o;exact ⟨o,.refl _ _ _ _,rfl,λi=>⟨rfl,λk e h=>⟨k,e,by simpa using h,rfl⟩⟩⟩
 | cons id a ih =>
  intro H o;obtain ⟨v,u,t,l⟩:=Mc o id;obtain ⟨z,y,x,m⟩:=ih v;refine ⟨z,u.trans y,x.trans t,λi=>⟨(m i).1.trans (l i).1,λk e h=>?_⟩⟩;rcases h with h|h
  .obtain ⟨c,r,q,p⟩:=(l i).2 k e (.inl h);obtain ⟨b,j,g,f⟩:=(m i).2 c r (.inl q);exact ⟨b,j,g,f.trans p⟩
  .rcases aP.1 h with rfl|h
   .obtain ⟨c,r,q,p⟩:=(l i).2 k e (.inr rfl);obtain ⟨b,j,g,f⟩:=(m i).2 c r (.inl q);exact ⟨b,j,g,f.trans p⟩
   .have n:=(l i).1;rw [e] at n;cases d:(H.frz id).get i with
    | none=>rw [d] at n;cases n
    | some c =>
     obtain ⟨b,j,g,f⟩:=(m i).2 c d (.inr h);refine ⟨b,j,g,f.trans ?_⟩;simp_all
theorem C2 {v:Value}{e n:Nat}{k:Blk}(x:Rel M0 H σ w)(C:RepV (dK M0 H σ) σ H.J w v (.own e n))(F:H.get e=some k)(N:k.fz=true)(L:k.es.length=n) :
  RepV (dK M0 H σ) σ H.J w v (.list k.es):=by
 obtain ⟨o,q,l⟩:=x.ah e k F;obtain ⟨A,b,m,c⟩:=l.row;cases C
 rename_i Q O h;rcases h o q with R|⟨P,rfl⟩
 .have:=l.af;omega
 .rcases b.2 with ⟨f,I⟩|⟨g,y,J,a,_,_,r,s,_⟩
  .rw [f,bI I];exact .listN
  .have d:o.block=some g:=by simp [Ow.block,a,Value.ownBlock]
   rw [a];refine .list ⟨g,0,none⟩ y o.K A k.es r s l.K c.len m (λj u hu=>⟨?_,b.cells (g:=g) (by simpa [Ow.block] using d) j u hu⟩) c.Y;rintro (D|⟨i,K,B,E,G,p,t⟩)
   .exact (x.lt e o g q d).2 D
   .have M:=x.inj i e B o g p q t d;grind
theorem P8 {M:Nat->Prop}{N:Nat->Prop}{ad:Addr}{g sz:Nat}{es:Xa1}{a b:Nat}(h:RepV M σ N w (.slice (some ad) es.length g) (.list es))(k:∀ c∈es,c.length=sz)(A:a<=b)(K:b<=es.length) :
  RepV M σ N w (.slice (some (if g=a then ad else ad.add (a * sz))) (b - a) (g - a)) (.list ((es.take b).drop a)):=by
 rcases uX h with ⟨F,_⟩|⟨G,v,z,y,E,i,o,l,B,J,s⟩
 .cases F
 .cases E
  have n:((es.take b).drop a).length=b - a:=by simp;omega
  have m:∀ c∈(es.take b).drop a,c.length=sz:=λc hc=>k c (bJ (cQ hc));have f:((es.take b).drop a).flatten=(es.flatten.take (b * sz)).drop (a * sz):=by
   rw [q8 _ a (λc hc=>k c (bJ hc)),q7 _ b k]
  by_cases q:g=a
  .have r:b=a:=bL;subst r;have t:(es.take b).drop b=[]:=iX et;have:=RepV.list (M:=M) (σ:=σ) (N:=N) (w:=w) ad (b - b) 0 [] [] bS bS bS rfl bS (λj u e=>by simp at e) (λj u d e=>by simp at e);grind
  .rw [if_neg q];have I:=RepV.list (M:=M) (σ:=σ) (N:=N) (w:=w) (ad.add (a * sz)) (g - a) sz ((y.take (b * sz)).drop (a * sz)) ((es.take b).drop a) (by rw [n];omega) bL m
    (by rw [f];simp [i.len]) (λu e=>o u (bJ (cQ e))) (λj u e=>by
     rw [bV,bX] at e;split at e
     .obtain ⟨O,L⟩:=l _ u e;rw [jD,BE];grind
     .cases e) (λj u d e p=>by
     rw [f,bV,bX] at p;rw [bV,bX] at e;split at e
     .rename_i C;rw [if_pos C] at p;exact i.Y _ u d e p
     .cases e)
   grind
theorem Sy {v:Value}{i n f m:Nat}{k:Blk}(x:Rel M0 H σ w)(z:RepV (dK M0 H σ) σ H.J w v (.win i n f m))(t:H.get i=some k)(A:k.fz=true)(s:k.es.length=n) :
  RepV (dK M0 H σ) σ H.J w v (.list ((k.es.take m).drop f)):=by
 obtain ⟨o,D,l⟩:=x.ah i k t;have r:=l.af;cases z
 rename_i E B j h;have q:S8 o v n f m:=by
  grind
 have a:RepV (dK M0 H σ) σ H.J w o.val (.list k.es):=by
  refine C2 (n:=n) x (.own o.val i n B ?_ λo' ho'=>?_) t A s
  .rcases q with ⟨g,_⟩|⟨b,p,g,_⟩<;>rw [g]<;>rfl
  grind
 rcases q with ⟨g,y,C⟩|⟨b,p,g,u,y⟩
 .subst y C;simpa using RepV.listN
 .rw [g,<- s] at a;have:=P8 a (λc u=>l.K c u) j.1 bL;have e:(Addr.add ⟨b,0,none⟩ (f * o.K))=⟨b,f * o.K,none⟩:=by simp [jL]
  grind
theorem rN {H H':AHeap}(h:∀ i,(H'.get i).map (·.es)=(H.get i).map (·.es))(d:D):fM H' d=fM H d:=by
 cases d<;>try rfl
 .rename_i a n;simp only [fM];grind
 .rename_i a n b c;simp only [fM];grind
theorem oC {v:Value}{d:D}(h:Rel M0 H σ w)(a:RepV (dK M0 H σ) σ H.J w v d)(g:∀ i∈mC d,∀ k,H.get i=some k->k.fz=true) :
  RepV (dK M0 H σ) σ H.J w v (fM H d):=by
 cases d<;>try exact a
 .rename_i c n;simp only [fM];cases e:H.get c with
  | none=>exact a
  | some k =>
   simp only;split
   .rename_i f;exact C2 h a e (g c (by simp [mC]) k e) f
   .exact a
 .rename_i c n j l;simp only [fM];cases e:H.get c with
  | none=>exact a
  | some k =>
   simp only;split
   .rename_i f;exact Sy h a e (g c (by simp [mC]) k e) f
   .exact a
theorem oB {v:Value}{d:D}(t:Rel M0 H σ w)(e:RepV (dK M0 H σ) σ H.J w v d)(a:List Nat)(h:∀ i∈eE d,i∈a) :
  RepV (dK M0 (fH a H) σ) σ (fH a H).J w v (jN H d):=by
 obtain ⟨o,z,A,m⟩:=fQ a t;have b:=e.G z;have c:∀ i∈a,∀ k,(fH a H).get i=some k->k.fz=true:=λi h k hk=>by
  have l:=(m i).1;rw [hk] at l;cases g:H.get i with
  | none=>rw [g] at l;cases l
  | some k0 =>
   grind
 cases d with
 | agg cs =>
  cases b
  rename_i p f s r;refine .agg p _ (cG s) f λj u x hu e=>?_;rw [aW,bQ] at e;obtain ⟨y,q,rfl⟩:=e;rw [<- rN (λi=>(m i).1) y];refine oC o (r j u y hu q) λi hii k hk=>c i (h i ?_) k hk;simp only [eE,bM];grind
 | _ =>
  simp only [jN];rw [<- rN (λi=>(m i).1)];exact oC o b λi hii k hk=>c i (h i hii) k hk
theorem SY {md:Nat->Bool}{v:Value}{d:D}(e:Rel M0 H σ w)(c:RepV (dK M0 H σ) σ H.J w v d)(a:List Nat)(b:∀ i∈N7 md d,i∈a) :
  RepV (dK M0 (fH a H) σ) σ (fH a H).J w v (Ud md H d):=by
 unfold Ud;unfold N7 at b;split
 .exact c.G (fQ a e).2.1
 .rename_i h;rw [if_neg h] at b;exact oB e c a b
theorem Gu {x:Operand}(h:kF x=true):x=.const (.slice none 0 0):=by grind [kF]
theorem IQ {nid:Nat}(B:¬ H.J nid){md:Nat->Bool}{e:Nat->D}{o:Oper}{ρ:Operand->Value}(z:Rel M0 H σ w)(r:EnvR (dK M0 H σ) σ H.J w ρ e)(h:(Hh P nid md e o H).cond) :
  (Hh P nid md e o H).aa/\XY P (execOp ρ o) M0 H σ w (Hh P nid md e o H).val (Hh P nid md e o H).heap:=by
 obtain ⟨b4,op,E,b3,b1,b0⟩:=o;unfold Hh execOp at *;simp only at h ⊢;cases op<;>try (exact h.elim)
 case move x =>
  simp only at h ⊢;by_cases V:kF x=true
  .rw [if_pos V] at h ⊢;have J:=Gu V;subst J;obtain ⟨k,g⟩:=LP (P:=P) B (x:=(Pure.pure (ρ (.const (.slice none 0 0))):Sem Value)) z (by show Result.ok (ρ _) w=_;rw [r.2.1]) h;obtain ⟨v,T,σ',hr,h3⟩:=g;have U:Result.ok (ρ (.const (.slice none 0 0))) w=Result.ok v T:=hr;injection U with e1 e2;subst e1;subst e2;exact ⟨k,_,_,σ',.inl rfl,h3⟩
  .rw [if_neg V] at h ⊢;exact ⟨trivial,ρ x,w,σ,.inl rfl,z,r.ev x,.refl _ _,.refl _ _ _ _⟩
 case assign x =>
  simp only at h ⊢;by_cases V:kF x=true
  .rw [if_pos V] at h ⊢;have J:=Gu V;subst J;obtain ⟨k,g⟩:=LP (P:=P) B (x:=(Pure.pure (ρ (.const (.slice none 0 0))):Sem Value)) z (by show Result.ok (ρ _) w=_;rw [r.2.1]) h;obtain ⟨v,T,σ',hr,h3⟩:=g;have U:Result.ok (ρ (.const (.slice none 0 0))) w=Result.ok v T:=hr;injection U with e1 e2;subst e1;subst e2;exact ⟨k,_,_,σ',.inl rfl,h3⟩
  .rw [if_neg V] at h ⊢;exact ⟨trivial,ρ x,w,σ,.inl rfl,z,r.ev x,.refl _ _,.refl _ _ _ _⟩
 case pick c a b =>
  obtain ⟨k,g⟩:=R3 z (r.ev c) (r.ev a) (r.ev b) h;exact ⟨k,by simpa using g.next⟩
 case alloc t =>
  obtain ⟨k,g⟩:=QV (P:=P) B z h;exact ⟨k,g.next⟩
 case box t x =>
  obtain ⟨k,g⟩:=VJ (P:=P) B z (r.ev x) h;exact ⟨k,g.next⟩
 case build t ps =>
  obtain ⟨k,g⟩:=QO (P:=P) z (r.dc ps.toList) h;refine ⟨k,?_⟩;have:=g.next;rw [show (List.map (λp=>(p.1,ρ p.2)) ps.toList).toArray=ps.map (λp=>(p.1,ρ p.2)) by rw [<- Array.toList_map]] at this;exact this
 case buildSlice t n ps =>
  obtain ⟨f1,f2,f3,f4⟩:=fQ (ps.toList.flatMap λp=>N7 md (fI e p.2)) z;have M:Parts (dK M0 (fH (ps.toList.flatMap λp=>N7 md (fI e p.2)) H) σ) σ (fH (ps.toList.flatMap λp=>N7 md (fI e p.2)) H).J w
    (ps.toList.map λp=>(p.1,ρ p.2)) (ps.toList.map λp=>(p.1,Ud md H (fI e p.2))):=by
   refine ⟨by simp [Function.comp_def],λj v d S N=>?_⟩;simp only [List.map_map,aW,bQ] at S N;obtain ⟨p,hp,rfl⟩:=S;obtain ⟨q,hq,rfl⟩:=N;rw [hp] at hq;cases hq
   exact SY z (r.ev p.2) _ λi W=>bM.2 ⟨p,aK hp,W⟩
  obtain ⟨k,g⟩:=FJ (P:=P) (by rw [f3];exact B) f1 M h;refine ⟨k,?_⟩;have:=g.next;rw [show (List.map (λp=>(p.1,ρ p.2)) ps.toList).toArray=ps.map (λp=>(p.1,ρ p.2)) by rw [<- Array.toList_map]] at this;obtain ⟨v,T,σ',a1,a2,a3,a4,a5⟩:=this;exact ⟨v,T,σ',a1,a2,a3,a4,f2.trans a5⟩
 case load t a =>
  obtain ⟨k,g⟩:=Sd (P:=P) z (r.ev a) h;exact ⟨k,g.next⟩
 case store t a v =>
  have Z:∀ (G:AHeap) (Q R:D),Rel M0 G σ w->Keeps (dK M0 H σ) σ H.J w (dK M0 G σ) σ G.J w->RepV (dK M0 G σ) σ G.J w (ρ a) Q->RepV (dK M0 G σ) σ G.J w (ρ v) R ->
    (nJ P t Q R G).cond->(nJ P t Q R G).aa/\XY P (do Instr.storeAt t (ρ a) (ρ v);Pure.pure Next.skip) M0 H σ w (nJ P t Q R G).val (nJ P t Q R G).heap:=by
   intro G Q R a8 a9 a6 a7 F;have g:=OR (P:=P) a8 a6 a7 F;have X:(nJ P t Q R G).aa/\(nJ P t Q R G).val=.junk:=by
    simp only [nJ] at F ⊢;split at F
    .split at F
     .split at F
      .exact ⟨trivial,rfl⟩
      .exact F.elim
     .exact F.elim
    .exact F.elim
   refine ⟨X.1,?_⟩;rw [X.2];obtain ⟨v',T,σ',a1,a2,a3,a4,a5⟩:=g.next;exact ⟨v',T,σ',a1,a2,a3,a4,a9.trans a5⟩
  simp only at h ⊢;by_cases hm:md 1000000=true
  .rw [if_pos hm] at h ⊢;obtain ⟨f1,f2,f3,f4⟩:=fQ (eE (fI e v)) z;exact Z _ _ _ f1 f2 ((r.ev a).G f2) (oB z (r.ev v) _ λi W=>W) h
  .rw [if_neg hm] at h ⊢;exact Z H _ _ z (.refl _ _ _ _) (r.ev a) (r.ev v) h
 case nilCheck x =>
  obtain ⟨a,k,g,h3,h4⟩:=IS z (r.ev x) h;refine ⟨g,ρ x,w,σ,.inl ?_,by rw [h4];exact z,by rw [h4];exact h3,.refl _ _,by rw [h4];exact .refl _ _ _ _⟩;simp [k]
 case binOp op t x y t' =>
  obtain ⟨k,g⟩:=VB (P:=P) (t:=t) (ox:=x) (oy:=y) z (r.ev x) (r.ev y) h;exact ⟨k,g.next⟩
 case unOp op t x =>
  obtain ⟨k,g⟩:=V6 (P:=P) z (r.ev x) h;exact ⟨k,g.next⟩
 case convert s d x =>
  obtain ⟨k,g⟩:=KT (P:=P) z (r.ev x) h;exact ⟨k,g.next⟩
 case makeFunc fn first caps =>
  cases fn<;>try (exact h.elim)
  rename_i f;simp only at h ⊢;by_cases X:first.isEmpty=true
  .rw [if_pos X];have:first=#[]:=by simpa using X
   subst this;refine ⟨trivial,⟨.func (.func f) #[] (caps.toList.map ρ).toArray,w,σ,.inl (by simp [Instr.makeFunc];rw [<- Array.toList_map]),z,.fn f _ _ bS (λj u d hu N=>?_),.refl _ _,.refl _ _ _ _⟩⟩;simp only [aW,bQ] at hu N;obtain ⟨p,hp,rfl⟩:=hu;obtain ⟨q,hq,rfl⟩:=N;rw [hp] at hq;cases hq
   exact r.ev p
  .rw [if_neg X] at h;exact h.elim
 case makeSlice t l c =>
  obtain ⟨k,g⟩:=Sa (P:=P) B z (r.ev l) (r.ev c) h;exact ⟨k,g.next⟩
 case slice t x lo W mx =>
  cases mx with
  | some m=>exact h.elim
  | none =>
   obtain ⟨k,g⟩:=OT (P:=P) (vlo:=lo.map ρ) (vhi:=W.map ρ) z (r.ev x) (λv d S N=>by
    cases lo with
    | none=>cases S
    | some o=>cases S;cases N;exact r.ev o) (by cases lo<;>rfl) (λv d S N=>by
    cases W with
    | none=>cases S
    | some o=>cases S;cases N;exact r.ev o) (by cases W<;>rfl) h
   exact ⟨k,g.next⟩
 case fieldAddr t x f =>
  obtain ⟨k,g⟩:=G8 (P:=P) z (r.ev x) h;exact ⟨k,g.next⟩
 case indexAddr t x i =>
  obtain ⟨k,g⟩:=G5 (P:=P) z (r.ev x) (r.ev i) h;exact ⟨k,g.next⟩
 case index t x i =>
  obtain ⟨k,g⟩:=Qg (P:=P) z (r.ev x) (r.ev i) h;exact ⟨k,g.next⟩
 case extract t i =>
  obtain ⟨k,g⟩:=KN (P:=P) z (r.ev t) h;exact ⟨k,g.next⟩
 case call c =>
  obtain ⟨O,C,ts⟩:=c;cases O<;>try (exact h.elim)
  rename_i b;obtain ⟨C⟩:=C;obtain ⟨ts⟩:=ts;simp only [List.map_toArray,resolve,invoke,XY,Sem.run_bind,Sem.run_pure,Result.andThen_ok] at h ⊢;unfold zB at *;split at h
  .rename_i xd td K;match C,K with
   | [ox],K =>
    cases K
    obtain ⟨k,g⟩:=Vj (P:=P) (ty:=E) z (r.ev ox) h;exact ⟨k,by simpa [XY,builtin] using g.next⟩
  .rename_i xd yd td b2 K;match C,K with
   | [ox,oy],K =>
    cases K
    obtain ⟨k,g⟩:=K6 (P:=P) B (ty:=E) z (r.ev ox) (r.ev oy) h;exact ⟨k,by simpa [XY,builtin] using g.next⟩
  .rename_i xd td K;match C,K with
   | [ox],K =>
    cases K
    obtain ⟨k,g⟩:=QJ (P:=P) (ty:=E) z (r.ev ox) h;exact ⟨k,by simpa [XY,builtin] using g.next⟩
  .rename_i x y J;match C,J with
   | [ox,oy],J =>
    cases J
    obtain ⟨k,g⟩:=LW (P:=P) (b:=.min) (mx:=false) (t:=E)  rfl z (r.ev ox) (r.ev oy) h;exact ⟨k,by simpa [XY,builtin] using g.next⟩
  .rename_i x y J;match C,J with
   | [ox,oy],J =>
    cases J
    obtain ⟨k,g⟩:=LW (P:=P) (b:=.max) (mx:=true) (t:=E)  rfl z (r.ev ox) (r.ev oy) h;exact ⟨k,by simpa [XY,builtin] using g.next⟩
  .exact h.elim
end
end Go.Abs
end

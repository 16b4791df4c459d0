/- The abstraction layer, part I: the operations that only comp -/
import Derived.Test.YtbgbahlipnaflaaGreatZvAB
set_option linter.unusedVariables false
set_option linter.unusedSimpArgs false
section
namespace Go.Abs
section
variable {P:Program} {M0:Nat→Prop} {H:AHeap} {σ:Nat→Option Ow} {w:World}
theorem YN {M:Nat->Prop}{N:Nat->Prop}{v:Value}{cs:UN}(c:Nat)(h:RepV M σ N w v (.adr cs)) :
  ∃ a,v=.pointer (some a)/\RepV M σ N w (.pointer (some (a.add c))) (.adr (cs.drop c)):=by
 obtain ⟨i,f,rfl,b,g,e⟩:=O5 h;refine ⟨i,rfl,.adr _ (f.drop c) _ (by simp [b.len]) (λu hu=>g u (e9 hu)) (λj u hu=>?_) λj u d hu hd=>?_⟩
 .rw [cY] at hu;obtain ⟨l,k⟩:=e _ u hu;rw [jB,Bn];grind
 .rw [cY] at hu hd;exact b.Z _ u d hu hd
theorem Ul {v:Value}{c ver i a:Nat}{k:Blk}(g:Rel M0 H σ w)(d:RepV (dV M0 H σ) σ H.F w v (.ptr c ver i a))(f:H.get c=some k)(j:k.P.length=ver) :
  ∃ b o,σ c=some o/\o.block=some b/\v=.pointer (some ⟨b,i * o.H+a,none⟩)/\H.F c/\o.ah=ver:=by
 obtain ⟨o,m,l⟩:=g.am c k f;cases d
 rename_i p n h;have e:o.ah=k.P.length:=l.ah;grind
theorem GO {v:Value}{x:D}{c:Nat}(l:Rel M0 H σ w)(h:RepV (dV M0 H σ) σ H.F w v x)(e:(fC x c H).cond) :
  ∃ a,v=.pointer (some a)/\RepV (dV M0 H σ) σ H.F w (.pointer (some (a.add c))) (fC x c H).val/\(fC x c H).heap=H/\(fC x c H).X:=by
 unfold fC at *;cases x<;>try (exact e.elim)
 case adr cs =>
  obtain ⟨a,s,r⟩:=YN c h;grind
 case ptr id ver i o =>
  cases f:H.get id with
  | none=>simp [f,AOut.bad] at e
  | some k =>
   simp only [f] at e ⊢;obtain ⟨b,n,p,q,rfl,m,j⟩:=Ul l h f e;refine ⟨_,rfl,?_,trivial,trivial⟩;rw [jK];refine .ptr _ id ver i (o+c) m rfl λo' ho'=>?_;grind
theorem Hj {t:TypeId}{z:Value}{x:D}{f:Nat}(C:Rel M0 H σ w)(F:RepV (dV M0 H σ) σ H.F w z x)(k:(jE P t x f H).cond) :
  (jE P t x f H).X/\OpS P (Instr.fieldAt t z f) M0 H σ w (jE P t x f H).val (jE P t x f H).heap:=by
 unfold jE at *;cases m:bk P t with
 | none=>simp [m,AOut.bad] at k
 | some b =>
  cases b with
  | ar p=>simp [m,AOut.bad] at k
  | st l =>
   simp only [m] at k ⊢;cases B:l[f]? with
   | none=>simp [B,AOut.bad] at k
   | some q =>
    obtain ⟨g,p⟩:=q;simp only [B] at k ⊢;obtain ⟨a,rfl,o,J,j⟩:=GO C F k.1;refine ⟨j,?_⟩;rw [J];unfold bk at m;cases u:P.underlying t with
    | none=>simp [u] at m
    | some L =>
     rw [u] at m;cases L<;>simp at m
     rename_i K;have I:∃ d,K[f]?=some d/\∃ i,P.info? d.type=some i/\g=d.offset/\p=i.size:=by
      have E:∀ (d:List Field) (l:List (Nat × Nat)) (f:Nat),d.mapM (λf=>(P.info? f.type).map λi=>(f.offset,i.size))=some l->l[f]?=some (g,p) ->
        ∃ x,d[f]?=some x/\∃ i,P.info? x.type=some i/\g=x.offset/\p=i.size:=by
       intro d;induction d with
       | nil=>intro l f h A;simp at h;subst h;simp at A
       | cons a d ih =>
        intro l f h A;simp only [List.mapM_cons,Option.bind_eq_bind,Option.pure_def] at h;cases s:P.info? a.type with
        | none=>simp [s] at h
        | some i =>
         cases G:d.mapM (λf=>(P.info? f.type).map λi=>(f.offset,i.size)) with
         | none=>simp [s,G] at h
         | some rest =>
          grind
      grind
     obtain ⟨d,y,i,s,rfl,rfl⟩:=I;have v:i.size≠0:=by have:=k.2;omega
     exact .pure C (by simp [Instr.fieldAt,run_underlying u,y,Instr.sureAddr,fieldPlace,sizeOf,typeInfo,s,v]) o
theorem R4 {t:TypeId}{n sz:Nat}(h:YJ P t=some (n,sz)):∃ e i,P.underlying t=some (.array n e)/\P.info? e=some i/\i.size=sz:=by grind [YJ]
theorem Hc {t:TypeId}{W vi:Value}{x i:D}(R:Rel M0 H σ w)(Q:RepV (dV M0 H σ) σ H.F w W x)(hi:RepV (dV M0 H σ) σ H.F w vi i)(B:(jD P t x i H).cond) :
  (jD P t x i H).X/\OpS P (Instr.indexAt t W vi) M0 H σ w (jD P t x i H).val (jD P t x i H).heap:=by
 unfold jD at *;cases i<;>try (exact B.elim)
 rename_i kd n;cases hi
 have L:∀ (x:D),RepV (dV M0 H σ) σ H.F w W x->(match YJ P t with
   | some (len,sz)=>(⟨(fC x (n.toNat * sz) H).cond/\0<=n/\n<len,(fC x (n.toNat * sz) H).X,(fC x (n.toNat * sz) H).val,(fC x (n.toNat * sz) H).heap⟩:AOut)
   | none=>AOut.bad H).cond->(match YJ P t with
   | some (len,sz)=>(⟨(fC x (n.toNat * sz) H).cond/\0<=n/\n<len,(fC x (n.toNat * sz) H).X,(fC x (n.toNat * sz) H).val,(fC x (n.toNat * sz) H).heap⟩:AOut)
   | none=>AOut.bad H).X/\OpS P (Instr.indexAt t W (.int kd n)) M0 H σ w (match YJ P t with
   | some (len,sz)=>(⟨(fC x (n.toNat * sz) H).cond/\0<=n/\n<len,(fC x (n.toNat * sz) H).X,(fC x (n.toNat * sz) H).val,(fC x (n.toNat * sz) H).heap⟩:AOut)
   | none=>AOut.bad H).val (match YJ P t with
   | some (len,sz)=>(⟨(fC x (n.toNat * sz) H).cond/\0<=n/\n<len,(fC x (n.toNat * sz) H).X,(fC x (n.toNat * sz) H).val,(fC x (n.toNat * sz) H).heap⟩:AOut)
   | none=>AOut.bad H).heap:=by
  intro x Q B;cases ha:YJ P t with
  | none=>simp [ha,AOut.bad] at B
  | some q =>
   obtain ⟨len,sz⟩:=q;simp only [ha] at B ⊢;obtain ⟨h1,K,S⟩:=B;obtain ⟨a,rfl,A,hh,N⟩:=GO R Q h1;refine ⟨N,?_⟩;rw [hh];obtain ⟨e,i,h,a3,p⟩:=R4 ha;exact .pure R (by simp [Instr.indexAt,run_underlying h,asIntOf,Instr.sureAddr,K,S,sizeOf,typeInfo,a3,p]) A
 cases x<;>try (exact L _ Q B)
 case list es =>
  cases G:sl P t with
  | none=>simp [G,AOut.bad] at B
  | some s =>
   simp only [G] at B ⊢;obtain ⟨⟨h0,h1⟩,K⟩:=B;obtain ⟨h,ti,z,M,hz,p,_,a0,_⟩:=tQ G;obtain ⟨q,rfl⟩:=fO h0;simp only [Int.toNat_natCast] at K ⊢;have I:q<es.length:=aD;have J:es[q]?=some es[q]:=aA I;rw [J] at K ⊢;simp only [Option.getD_some] at K ⊢;refine ⟨trivial,?_⟩;rcases u3 Q with ⟨rfl,rfl⟩|⟨ad,a5,sz,xs,rfl,A,Z,O,a2,hm,E⟩
   .simp at I
   .have U:sz=s.Y:=(E _ (aC I)).symm.trans K;subst U;have a4:=nA es E;have Y:q * s.Y+s.Y<=xs.length:=by
     rw [A.len,a4];have:(q+1) * s.Y<=es.length * s.Y:=fY _ I;rw [Nat.add_mul] at this;omega
    refine .pure R (v:=.pointer (some (ad.add (q * s.Y)))) (by simp [Instr.indexAt,run_underlying h,asIntOf,I,sizeOf,typeInfo,M,p]) ?_;refine .adr _ ((xs.drop (q * s.Y)).take s.Y) _ (by simp only [cX,f8];omega) (λu h=>Z u (e9 (dD h))) (λj u h=>?_) λj u d h hd=>?_
    .rw [cO] at h;split at h
     .rw [cY] at h;obtain ⟨h5,h6⟩:=O _ u h;rw [jB,Bn];exact ⟨h5,h6⟩
     .cases h
    .rw [cO] at h;split at h
     .rename_i hj;rw [cY] at h;exact A.Z _ u d h (by rw [oC es q _ E J j hj];exact hd)
     .cases h
 case own id m =>
  cases G:sl P t with
  | none=>simp [G,AOut.bad] at B
  | some s =>
   cases X:H.get id with
   | none=>simp [G,X,AOut.bad] at B
   | some k =>
    simp only [G,X] at B ⊢;obtain ⟨⟨h0,h1⟩,K,S⟩:=B;obtain ⟨h,ti,z,M,hz,p,_,a0,_⟩:=tQ G;obtain ⟨q,rfl⟩:=fO h0;simp only [Int.toNat_natCast] at S ⊢;have I:q<k.P.length:=aD;have a1:q<m:=aD;refine ⟨trivial,?_⟩;obtain ⟨o,ho,l⟩:=R.am id k X;have V:o.H=s.Y:=by
     rw [aA I] at S;simp only [Option.getD_some] at S;exact (l.H _ (aC I)).symm.trans S
    have hN:H.F id:=by cases Q;assumption
    rcases Up R Q X K with ⟨rfl,rfl⟩|⟨b,a5,rfl,a2,hm,o',F,hb,_,T⟩
    .omega
    .rw [ho] at F;cases F
     refine .pure R (v:=.pointer (some ⟨b,q * s.Y,none⟩)) (by simp [Instr.indexAt,run_underlying h,asIntOf,a1,sizeOf,typeInfo,M,p,jK]) ?_;refine .ptr _ id m q 0 hN rfl λo' F=>?_;rw [ho] at F;cases F
     exact .inr ⟨T.symm,b,hb,by rw [V];simp⟩
theorem QH {i k j:Value}{c a b:D}(g:Rel M0 H σ w)(e:RepV (dV M0 H σ) σ H.F w i c)(m:RepV (dV M0 H σ) σ H.F w k a)(l:RepV (dV M0 H σ) σ H.F w j b)
  (f:(xE c a b H).cond):(xE c a b H).X/\OpS P (do pure (if <- asBool i then k else j)) M0 H σ w (xE c a b H).val (xE c a b H).heap:=by
 unfold xE at *
 split at f
 .cases e;cases m
  exact ⟨trivial,.pure g (by simp [asBool]) (.bool _)⟩
 .cases e;cases m
  rename_i h
  have:=h f
  cases this
  exact ⟨trivial,.pure g (by simp [asBool]) (.bool _)⟩
 .cases e;cases l
  exact ⟨trivial,.pure g (by simp [asBool]) (.bool _)⟩
 .cases e;cases l
  rename_i h
  have:=h f
  cases this
  exact ⟨trivial,.pure g (by simp [asBool]) (.bool _)⟩
 .exact f.elim
theorem Tb {l n m:Value}{c a b:D}(f:Rel M0 H σ w)(e:RepV (dV M0 H σ) σ H.F w l c)(k:RepV (dV M0 H σ) σ H.F w n a)(j:RepV (dV M0 H σ) σ H.F w m b)
  (i:(Bp c a b H).cond):(Bp c a b H).X/\OpS P (do pure (if <- asBool l then n else m)) M0 H σ w (Bp c a b H).val (Bp c a b H).heap:=by
 unfold Bp at *
 split at i
 .rename_i c a b
  cases e;cases k;cases j
  cases c<;>exact ⟨trivial,.pure f (by simp [asBool]) (.bool _)⟩
 .rename_i c a g b
  cases e;cases k;cases j
  rename_i h
  cases c with
  | true=>exact ⟨trivial,.pure f (by simp [asBool]) (.bool _)⟩
  | false =>
   have:=h (i rfl)
   cases this
   exact ⟨trivial,.pure f (by simp [asBool]) (.bool _)⟩
 .rename_i c g a b
  cases e;cases k;cases j
  rename_i h
  cases c with
  | false=>exact ⟨trivial,.pure f (by simp [asBool]) (.bool _)⟩
  | true =>
   have:=h (i rfl)
   cases this
   exact ⟨trivial,.pure f (by simp [asBool]) (.bool _)⟩
 .rename_i c g a r b
  cases e;cases k;cases j
  rename_i p h o q
  cases c with
  | false =>
   have:=q (i.2 rfl)
   cases this
   exact ⟨trivial,.pure f (by simp [asBool]) (.bool _)⟩
  | true =>
   have:=h (i.1 rfl)
   cases this
   exact ⟨trivial,.pure f (by simp [asBool]) (.bool _)⟩
 .exact QH f e k j i
theorem MF {mx:Bool}{b:Builtin}(i:b=if mx then .max else .min){t:TypeId}{ts:Array TypeId}{d c:Value}{x y:D}(f:Rel M0 H σ w)(h:RepV (dV M0 H σ) σ H.F w d x)(g:RepV (dV M0 H σ) σ H.F w c y)
  (e:(EL mx x y H).cond):(EL mx x y H).X/\OpS P (if mx then Builtin.max_ ts t #[d,c] else Builtin.min_ ts t #[d,c]) M0 H σ w (EL mx x y H).val (EL mx x y H).heap:=by
 unfold EL at *;split at e
 .obtain rfl:=e;cases h;cases g
  cases mx with
  | true=>exact ⟨trivial,.pure f (by simp [Builtin.max_,Builtin.max2]) (.int _ _)⟩
  | false=>exact ⟨trivial,.pure f (by simp [Builtin.min_,Builtin.min2]) (.int _ _)⟩
 .exact e.elim
theorem LK {s d:TypeId}{h:Value}{x:D}(j:Rel M0 H σ w)(i:RepV (dV M0 H σ) σ H.F w h x)(b:(oJ P s d x H).cond) :
  (oJ P s d x H).X/\OpS P (convert s d h) M0 H σ w (oJ P s d x H).val (oJ P s d x H).heap:=by
 unfold oJ at *;split at b
 .rename_i p n;split at b
  .rename_i k c;cases i
   obtain ⟨o,m⟩:=b;obtain ⟨r,g⟩:=gZ.1 o;unfold Tq at c;split at c
   .rename_i q l;cases c
    exact ⟨trivial,.pure j (by simp [convert,run_underlying g,run_underlying l,Conv.intToInt,uM m]) (.int _ _)⟩
   .cases c
  .exact b.elim
 .split at b
  .rename_i f e;cases i
   exact ⟨trivial,.pure j (by simp [convert,run_underlying f,run_underlying e]) (.str _)⟩
  .exact b.elim
 .exact b.elim
theorem W9 {b:UnOp}{d:Value}{x:D}(f:Rel M0 H σ w)(e:RepV (dV M0 H σ) σ H.F w d x)(c:(YO b x H).cond) :
  (YO b x H).X/\OpS P (Op.unary b d) M0 H σ w (YO b x H).val (YO b x H).heap:=by
 unfold YO at *;split at c
 .cases e;exact ⟨trivial,.pure f (by simp [Op.unary]) (.bool _)⟩
 .cases e;exact ⟨trivial,.pure f (by simp [Op.unary,Op.intArith];rw [uM (bY c)]) (by simpa using RepV.int _ _)⟩
 .exact c.elim
theorem LF {c:Value}{x:D}{i:Nat}(h:Rel M0 H σ w)(e:RepV (dV M0 H σ) σ H.F w c x)(d:(oI x i H).cond) :
  (oI x i H).X/\OpS P (Instr.extract c i) M0 H σ w (oI x i H).val (oI x i H).heap:=by
 unfold oI at *;cases x<;>try (exact d.elim)
 rename_i j;cases e
 rename_i b f k;have g:i<b.length:=by rw [f];exact d
 refine ⟨trivial,.pure h (v:=b[i]) (by simp [Instr.extract,g]) ?_⟩;grind
theorem MA {nid:Nat}(k:¬ H.F nid){m:Bool}{t:TypeId}{x:Sem Value}(h:Rel M0 H σ w)(g:x.run P w=.ok (.slice none 0 0) w)(l:(FU P nid m t H).cond) :
  (FU P nid m t H).X/\OpS P x M0 H σ w (FU P nid m t H).val (FU P nid m t H).heap:=by
 unfold FU at *;cases m with
 | false=>exact ⟨trivial,.pure h g .nil⟩
 | true =>
  cases i:sl P t with
  | none=>simp [i,AOut.bad] at l
  | some s =>
   have f:=Rel.push h nid k (w':=w) rfl rfl rfl (bC _) (λ_ _=>rfl) ⟨s.e,s.Y,[],false⟩ ⟨0,.slice none 0 0,s.Y,s.e⟩ (λb hb=>by simp [Ow.block,Value.ownBlock] at hb) rfl rfl rfl aE
    [] (World.ownsRow_nil w 0 s.e s.Y) aE ⟨rfl,λj u d hu=>by simp at hu⟩
   refine ⟨trivial,_,w,_,g,f.1,.own _ nid 0 (.inl rfl) rfl λo ho=>?_,f.2.1,f.2.2⟩;grind
theorem Jn {d:Value}{x:D}(j:Rel M0 H σ w)(g:RepV (dV M0 H σ) σ H.F w d x)(c:(kJ x H).cond) :
  ∃ a,d=.pointer (some a)/\(kJ x H).X/\RepV (dV M0 H σ) σ H.F w d (kJ x H).val/\(kJ x H).heap=H:=by
 unfold kJ at *;cases x<;>try (exact c.elim)
 case adr cs =>
  obtain ⟨r,l,rfl,_⟩:=O5 g;grind
 case ptr id ver i o =>
  cases e:H.get id with
  | none=>simp [e,AOut.bad] at c
  | some k =>
   simp only [e] at c ⊢;obtain ⟨b,m,n,p,rfl,q,h⟩:=Ul j g e c;grind
end
end Go.Abs
end
section
namespace Go.Abs
section
variable {P:Program} {M0:Nat→Prop} {H:AHeap} {σ:Nat→Option Ow} {w:World}
theorem Br {M:Nat->Prop}{N:Nat->Prop}{b:Option Value}{c:Option D}{a n:Int}(h:∀ v x,b=some v->c=some x->RepV M σ N w v x)(e:b.isSome=c.isSome)(d:YV c a=some n) :
  (b=none/\n=a)\/∃ k,b=some (.int k n):=by
 cases c with
 | none=>cases b with
  | none=>simp [YV] at d;exact .inl ⟨rfl,d.symm⟩
  | some v=>simp at e
 | some x=>cases b with
  | none=>simp at e
  | some v =>
   have:=h v x rfl rfl;cases x<;>simp [YV] at d
   cases this
   grind
theorem Bu {e:TypeId}{t:TypeId}(n:P.underlying t=some (.slice e)){v:TypeInfo}(f:P.info? e=some v)(a:Option Addr)(len d:Nat)(z:len<=d)(p u:Option Value)(l h:Int)
  (A:(p=none/\l=0)\/∃ k,p=some (.int k l)) (B:(u=none/\h=len)\/∃ k,u=some (.int k h)) (y:0<=l) (C:l<=h) (F:h<=len) :
  (Instr.sliceAt t (.slice a len d) p u none).run P w=.ok (.slice (if d=l.toNat then a else a.map (·.add (l.toNat * v.size))) (h.toNat - l.toNat) (d - l.toNat)) w:=by
 have g:h<=(d:Int):=aD;have o:∀ (x:Nat) (k:IntKind) (i:Int) (j:BoundsCode),0<=i->i<=(x:Int)->(Instr.sliceBound (.int k i) x j).run P w=.ok i.toNat w:=by
  intro x k i j s r;simp [Instr.sliceBound,asIntOf,s,r]
 rcases A with ⟨rfl,rfl⟩|⟨D,rfl⟩<;>rcases B with ⟨rfl,rfl⟩|⟨E,rfl⟩
 .simp [Instr.sliceAt,Instr.slice,run_underlying n,Instr.sliceBounds,sizeOf,typeInfo,f]
 .simp [Instr.sliceAt,Instr.slice,run_underlying n,Instr.sliceBounds,sizeOf,typeInfo,f,o _ _ _ _ (by omega:(0:Int)<=h) g]
 .simp [Instr.sliceAt,Instr.slice,run_underlying n,Instr.sliceBounds,sizeOf,typeInfo,f,o len _ _ _ y C]
 .have q:l<=(h.toNat:Int):=aD;simp [Instr.sliceAt,Instr.slice,run_underlying n,Instr.sliceBounds,sizeOf,typeInfo,f,o _ _ _ _ (by omega:(0:Int)<=h) g,o _ _ _ _ y q]
theorem K8 {t:TypeId}(c:P.underlying t=some .string)(s:ByteArray)(e m:Option Value)(l h:Int)
  (p:(e=none/\l=0)\/∃ k,e=some (.int k l)) (q:(m=none/\h=s.size)\/∃ k,m=some (.int k h)) (o:0<=l) (r:l<=h) (n:h<=s.size) :
  (Instr.sliceAt t (.string s) e m none).run P w=.ok (.string (s.extract l.toNat h.toNat)) w:=by
 have d:∀ (x:Nat) (k:IntKind) (i:Int) (a:BoundsCode),0<=i->i<=(x:Int)->(Instr.sliceBound (.int k i) x a).run P w=.ok i.toNat w:=by
  intro x k i a j g;simp [Instr.sliceBound,asIntOf,j,g]
 rcases p with ⟨rfl,rfl⟩|⟨u,rfl⟩<;>rcases q with ⟨rfl,rfl⟩|⟨v,rfl⟩
 .simp [Instr.sliceAt,Instr.slice,run_underlying c,Instr.sliceBounds]
 .simp [Instr.sliceAt,Instr.slice,run_underlying c,Instr.sliceBounds,d _ _ _ _ (by omega:(0:Int)<=h) n]
 .simp [Instr.sliceAt,Instr.slice,run_underlying c,Instr.sliceBounds,d s.size _ _ _ o r]
 .have f:l<=(h.toNat:Int):=aD;simp [Instr.sliceAt,Instr.slice,run_underlying c,Instr.sliceBounds,d _ _ _ _ (by omega:(0:Int)<=h) n,d _ _ _ _ o f]
theorem PJ {t:TypeId}{vx:Value}{x:D}{vlo vhi:Option Value}{X Y:Option D}(Z:Rel M0 H σ w)(hx:RepV (dV M0 H σ) σ H.F w vx x)
  (U:∀ v x,vlo=some v->X=some x->RepV (dV M0 H σ) σ H.F w v x) (E:vlo.isSome=X.isSome)
  (V:∀ v x,vhi=some v->Y=some x->RepV (dV M0 H σ) σ H.F w v x) (G:vhi.isSome=Y.isSome) (p:(sC P t x X Y H).cond) :
  (sC P t x X Y H).X/\OpS P (Instr.sliceAt t vx vlo vhi none) M0 H σ w (sC P t x X Y H).val (sC P t x X Y H).heap:=by
 unfold sC at *;split at p
 .rename_i es;split at p
  .rename_i s l h hs hl hh;obtain ⟨J,L,h2,h3⟩:=p;obtain ⟨i,ti,z,B,hz,F,_,b4,_,_,b1,_⟩:=tQ hs;have T:=Br U E hl;have O:=Br V G hh;obtain ⟨a,rfl⟩:=fO J;obtain ⟨b,rfl⟩:=fO (Int.le_trans J L);simp only [Int.toNat_natCast];have b8:a<=b:=aD;have K:b<=es.length:=aD;refine ⟨trivial,?_⟩;rcases u3 hx with ⟨rfl,rfl⟩|⟨ad,y,sz,xs,rfl,R,a5,W,a8,hm,q⟩
   .have f:=Bu (P:=P) (w:=w) i B none 0 0 (bC _) vlo vhi a b T O J L (bY h2);simp at K;subst K;have:a=0:=aD;subst this;refine .pure Z f ?_;simpa using RepV.listN
   .have f:=Bu (P:=P) (w:=w) i B (some ad) es.length y a8 vlo vhi a b T O J L h2;simp only [Int.toNat_natCast,d7] at f;have S:((es.take b).drop a).length=b - a:=by simp;omega
    have a0:es≠[]->sz=s.Y:=λhne=>by
     cases es with
     | nil=>exact absurd rfl hne
     | cons e es=>simp at h3;exact (q e aE).symm.trans h3
    rw [F] at f;refine .pure Z f ?_;have a2:∀ c∈(es.take b).drop a,c.length=sz:=λc p=>q c (dD (e9 p));have I:((es.take b).drop a).flatten=(es.flatten.take (b * sz)).drop (a * sz):=by
     rw [q8 _ a (λc p=>q c (dD p)),q7 _ b q]
    by_cases a4:y=a
    .have b0:b=a:=aD;subst b0;simp only [a4,if_true];have r:(es.take b).drop b=[]:=iW ie;rw [r];have:=RepV.list (M:=dV M0 H σ) (σ:=σ) (N:=H.F) (w:=w) ad (b - b) 0 [] [] aE aE aE rfl aE (λj u i=>by simp at i) (λj u d i=>by simp at i);simpa using this
    .rw [if_neg a4];have hv:=RepV.list (M:=dV M0 H σ) (σ:=σ) (N:=H.F) (w:=w) (ad.add (a * s.Y)) (y - a) sz ((xs.take (b * sz)).drop (a * sz)) ((es.take b).drop a) (by rw [S];omega) aD a2
      (by rw [I];simp [R.len]) (λu i=>a5 u (dD (e9 i))) (λj u i=>by
       rw [cY,cO] at i;split at i
       .obtain ⟨h5,h6⟩:=W _ u i;rw [jB,Bn];refine ⟨h5,?_⟩;rw [<- a0 (λe=>by subst e;simp at K;subst K;simp at *)];exact h6
       .cases i) (λj u d i hd=>by
       rw [I,cY,cO] at hd;rw [cY,cO] at i;split at i
       .rename_i hj;rw [if_pos hj] at hd;exact R.Z _ u d i hd
       .cases i)
     rw [S] at hv;exact hv
  .exact p.elim
 .rename_i id m;split at p
  .rename_i s k l h hs hk hl hh;obtain ⟨⟨J,L,h2⟩,a3,a9⟩:=p;obtain ⟨i,ti,z,B,hz,F,_⟩:=tQ hs;have T:=Br U E hl;have O:=Br V G hh;obtain ⟨a,rfl⟩:=fO J;obtain ⟨b,rfl⟩:=fO (Int.le_trans J L);simp only [Int.toNat_natCast];obtain ⟨o,ho,lz⟩:=Z.am id k hk;obtain ⟨xs,a1,_,_⟩:=lz.row;cases hx
   rename_i b2 hN h;refine ⟨trivial,?_⟩;rcases h o ho with h'|⟨c0,rfl⟩
   .have:=lz.ah;omega
   .have C:∀ o',σ id=some o'->o'=o:=λo' ho'=>by rw [ho] at ho';exact (Option.some.inj ho').symm
    rcases a1.2 with ⟨r,b3⟩|⟨g,y,c1,Q,b7,hg,a7,b6,b5,a6⟩
    .have f:=Bu (P:=P) (w:=w) i B none 0 0 (bC _) vlo vhi a b T (by rw [(aD:m=0)] at O;exact O) J L aD;have ha:a=0:=aD;have hb:b=0:=aD;subst ha hb;rw [r];refine .pure Z (bY f) (.win _ id m 0 0 hN rfl ⟨bC _,eL _⟩ λo' ho'=>.inr ⟨?_,.inl ⟨?_,rfl,rfl⟩⟩)
     .rw [C o' ho'];omega
     .rw [C o' ho'];exact r
    .have f:=Bu (P:=P) (w:=w) i B (some ⟨g,0,none⟩) k.P.length y a7 vlo vhi a b T (by rw [a3];exact O) J L aD;rw [Q];refine .pure Z f ?_;refine .win _ id m a b hN rfl ⟨aD,aD⟩ λo' ho'=>.inr ⟨?_,.inr ⟨g,y,?_,aD,?_⟩⟩
     .rw [C o' ho'];omega
     .rw [C o' ho',Q,a3]
     .rw [C o' ho',lz.Y,a9,F];simp only [Int.toNat_natCast];split<;>simp [jK]
  .exact p.elim
 .rename_i s;split at p
  .rename_i l h i hl hh;obtain ⟨J,L,h2⟩:=p;cases hx
   have T:=Br U E hl;have O:=Br V G hh;exact ⟨trivial,.pure Z (K8 i s vlo vhi l h T O J L h2) (.str _)⟩
  .exact p.elim
 .exact p.elim
theorem abK {a:Nat}{k:Blk}(b:H.get a=some k):H.put a k=H:=by
 unfold AHeap.put;have:(λi=>if i=a then some k else H.get i)=H.get:=by
  grind
 rw [this]
theorem Vg {es:UE}{b a:Nat}{z:UN}(c:b<=a)(d:a<=es.length):(es.take b++List.replicate (a - b) z++es.drop a).length=es.length:=by simp;omega
theorem Ph {n:Nat}{es:UE}{a b:Nat}{z:UN}(d:∀ c∈es,c.length=n)(f:z.length=n)(g:a<=b)(i:b<=es.length) :
  (es.take a++List.replicate (b - a) z++es.drop b).flatten=es.flatten.take (a * n)++(List.replicate (b - a) z).flatten++es.flatten.drop (a * n+(List.replicate (b - a) z).flatten.length):=by
 rw [nF,nF,q7 es a d,q8 es b d,nS,f,<- Nat.add_mul,(aD:a+(b - a)=b)]
theorem RP {t ty:TypeId}{V:Value}{x:D}(hR:Rel M0 H σ w)(hx:RepV (dV M0 H σ) σ H.F w V x)(hc:(xF P t x H).cond) :
  (xF P t x H).X/\OpS P (Builtin.clear_ #[t] ty #[V]) M0 H σ w (xF P t x H).val (xF P t x H).heap:=by
 unfold xF at *;split at hc
 .rename_i id ver a c;split at hc
  .rename_i s k hs hk;obtain ⟨b1,Z,c7,a9⟩:=hc;obtain ⟨f,ti,z,a8,hz,c0,_,c8,_,X,v,a1,a7⟩:=tQ hs;obtain ⟨o,ho,l⟩:=hR.am id k hk;obtain ⟨U,a2,Y,n⟩:=l.row;have d0:=l.ah;cases hx
   rename_i b7 hN a5 h;have hw:WV o V ver a c:=by
    rcases h o ho with h'|⟨_,R⟩
    .omega
    .exact R
   have L:a=c->(k.P.take a++List.replicate (c - a) s.z++k.P.drop c)=k.P:=λe=>by subst e;simp
   have a0:RepV (dV M0 H σ) σ H.F w (.tuple #[]) (.tup []):=.tup [] [] rfl (λj u d f m=>by simp at f);refine ⟨trivial,?_⟩;have y:a=c->(Builtin.clear_ #[t] ty #[V]).run P w=.ok (.tuple #[]) w->OpS P (Builtin.clear_ #[t] ty #[V]) M0 H σ w (.tup []) (H.put id { k with P:=k.P.take a++List.replicate (c - a) s.z++k.P.drop c }):=λe A=>by
    rw [L e,abK hk];exact .pure hR A a0
   rcases hw with ⟨R,rfl,h4⟩|⟨b,S,R,c3,rfl⟩
   .exact y aD (by simp [Builtin.clear_,run_underlying f])
   .by_cases he:a=c
    .refine y he ?_;subst he;simp [Builtin.clear_,run_underlying f]
    .have b4:S≠a:=aD;rw [if_neg b4];rcases a2.2 with ⟨I,_⟩|⟨g,c4,i,G,b5,hg,a4,b3,b2,K⟩
     .rw [R] at I;cases I
     .rw [R] at G;cases G
      have F:o.H=s.Y:=l.Y.trans a9;have c5:U.length=k.P.length * o.H:=n.len.trans (nA k.P l.H);have c2:k.P.length * o.H<=i.size:=by rw [b2];exact fY _ a4
      obtain ⟨hr,h1⟩:=sG (M:=dV M0 H σ) (σ:=σ) (N:=H.F) (w:=w) z (c - a) aD (by rw [<- X];exact a7);rw [<- X] at hr;have r:(madeCells z.cells ((c - a) * z.cells.size)).toList.length=(c - a) * o.H:=by simp [size_madeCells,a1,F]
      have c9:(madeCells z.cells ((c - a) * z.cells.size)).size=(c - a) * o.H:=by rw [<- r,g8]
      have b8:a * o.H+(c - a) * o.H=c * o.H:=by rw [<- Nat.add_mul,(aD:a+(c - a)=c)]
      have c1:c * o.H<=k.P.length * o.H:=fY _ aD;have E:=run_storeCells_at (P:=P) b (a * o.H) k.ty (madeCells z.cells ((c - a) * z.cells.size)).toList 0 i w hg (by rw [r];omega) h1;simp only [vQ] at E;have J:∀ w,(zeroValue s.e).run P w=.ok z w:=λw=>by simp [zeroValue,typeInfo,a8,hz]
      obtain ⟨q,hq⟩:∃ q,c - a=q+1:=⟨c - a - 1,aD⟩;have A:(Builtin.clear_ #[t] ty #[.slice (some ⟨b,a * o.H,none⟩) (c - a) (S - a)]).run P w=.ok (.tuple #[]) (w.setRow b (i.toList.take (a * o.H)++(madeCells z.cells ((c - a) * z.cells.size)).toList++i.toList.drop (a * o.H+(madeCells z.cells ((c - a) * z.cells.size)).toList.length)).toArray):=by
       rw [hq] at E ⊢;simp only [Builtin.clear_];simp [run_underlying f,J];have b0:Builtin.zeroCells z.cells (q+1)=madeCells z.cells ((q+1) * z.cells.size):=rfl;rw [b0];simp at E;simp [E]
      have C:=Vg (z:=s.z) a5.1 (aD:c<=k.P.length);have a6:=Ph (z:=s.z) l.H (by rw [v,F]) a5.1 (aD:c<=k.P.length);have a3:(List.replicate (c - a) s.z).flatten.length=(c - a) * o.H:=by rw [nS,v,F]
      have hp:=Rel.put hR hk b1 ho { k with P:=k.P.take a++List.replicate (c - a) s.z++k.P.drop c } o (w':=w.setRow b (i.toList.take (a * o.H)++(madeCells z.cells ((c - a) * z.cells.size)).toList++i.toList.drop (a * o.H+(madeCells z.cells ((c - a) * z.cells.size)).toList.length)).toArray)
       ⟨rfl,rfl,rfl,by simp,λq _ hq=>setRow_other w b q _ (λe=>hq (by rw [e];simp [Ow.block,R,Value.ownBlock]))⟩ (λb' hb'=>.inl hb') (.inl rfl) (by rw [C];exact l.ah) l.ty l.Y
       (λd m=>by
        simp only [aZ] at m;rcases m with (m|m)|m
        .exact l.H d (dD m)
        .rw [mD m,v,F]
        .exact l.H d (e9 m))
       (U.take (a * o.H)++(madeCells z.cells ((c - a) * z.cells.size)).toList++U.drop (a * o.H+(madeCells z.cells ((c - a) * z.cells.size)).toList.length))
       ⟨by simp only [aI,cX,f8,r,C];omega,.inr ⟨b,S,_,by rw [C];simpa [Z] using R,b5,setRow_heap w b i _ k.ty _ hg,by rw [C];exact a4,b3,by simp only [pB,aI,cX,f8,r,g8];omega,by
        simp only [C];rw [<- K];apply gA;intro j;simp only [cO,jU,cX,cY,g8];by_cases hj:j<k.P.length * o.H
        .rw [if_pos hj];have m1:min (a * o.H) i.size=a * o.H:=aD;have m2:min (a * o.H) (min (k.P.length * o.H) i.size)=a * o.H:=aD;rw [m1,m2];split
         .first|rfl|rw [if_pos hj]
         .split
          .rfl
          .first|rfl|rw [if_pos aD]
        .rw [if_neg hj];have m2:min (a * o.H) (min (k.P.length * o.H) i.size)=a * o.H:=aD;rw [m2,if_neg aD,if_neg aD,if_neg aD]⟩⟩
       (λu f=>by
        simp only [aZ] at f;rcases f with (f|f)|f
        .exact Y u (dD f)
        .exact h1 u f
        .exact Y u (e9 f))
       ⟨by simp only [a6,aI,cX,f8,r,a3,n.len],λj u d f m=>by
        simp only [a6] at m;have Q:k.P.flatten.length=U.length:=n.len.symm;simp only [jU,cX,cO,cY,Q,r,a3] at f m;have m1:min (a * o.H) U.length=a * o.H:=aD;rw [m1] at f m;split at m
        .rename_i B;rw [if_pos B] at f;try rw [if_pos B] at f
         try rw [if_pos B] at m
         exact n.Z j u d f m
        .rename_i B;rw [if_neg B] at f;split at m
         .rename_i O;rw [if_pos O] at f;exact hr.Z _ u d f m
         .rename_i O;rw [if_neg O] at f;exact n.Z _ u d f m⟩
      simp only [Ja o id ho] at hp;exact ⟨_,_,σ,A,hp.1,.tup [] [] rfl (λj u d f m=>by simp at f),hp.2.1,hp.2.2⟩
  .exact hc.elim
 .exact hc.elim
theorem Ri {t:TypeId}{A B:Value}{x i:D}(G:Rel M0 H σ w)(E:RepV (dV M0 H σ) σ H.F w A x)(F:RepV (dV M0 H σ) σ H.F w B i)(c:(vH P t x i H).cond) :
  (vH P t x i H).X/\OpS P (Instr.index t A B) M0 H σ w (vH P t x i H).val (vH P t x i H).heap:=by
 unfold vH at *;split at c
 .rename_i s J n;split at c
  .rename_i l;obtain ⟨y,Q⟩:=c;cases E;cases F
   obtain ⟨q,rfl⟩:=fO y;have hq:q<s.size:=aD;have hq':q<s.data.size:=hq;refine ⟨trivial,.pure G (v:=.int .u8 ((s.data[q]'hq').toNat:Int)) ?_ ?_⟩
   .have:s[q]?=some (s[q]'hq):=by simp [hq]
    simp [Instr.index,asIntOf,run_underlying l,this];rfl
   .have e:s.data[q]?=some (s.data[q]'hq'):=bU hq';simp only [Int.toNat_natCast,e,Option.getD_some];exact .int _ _
  .exact c.elim
 .rename_i V J n;split at c
  .rename_i I S g e M l;split at c
   .rename_i m;obtain ⟨⟨y,Q⟩,O,u⟩:=c;cases E;cases F
    rename_i z K T L;obtain ⟨q,rfl⟩:=fO y;simp only [Int.toNat_natCast] at u ⊢;obtain ⟨U,R,d,r,j⟩:=R4 M;rw [l] at d;simp at d;obtain ⟨rfl,rfl⟩:=d;have N:=Xe (w:=w) m;have hq:q<z.length:=aD;have o:q<g:=aD;refine ⟨trivial,.pure G (v:=z[q]) ?_ ?_⟩
    .simp [Instr.index,asIntOf,run_underlying l,o,sizeOf,typeInfo,r,j,O,part,N,hq]
    .rw [aA u];exact L q _ _ (aA hq) (aA u)
   .exact c.elim
  .exact c.elim
 .exact c.elim
end
end Go.Abs
end
section
namespace Go.Abs
section
variable {P:Program} {M0:Nat→Prop} {H:AHeap} {σ:Nat→Option Ow} {w:World}
def Y1 (P:Program)(x:Sem Next)(M0:Nat->Prop)(H:AHeap)(σ:Nat->Option Ow)(w:World)(d:D)(H':AHeap):Prop :=
 ∃ v w' σ',(x.run P w=.ok (.value v) w'\/(x.run P w=.ok .skip w'/\v=undef))/\Rel M0 H' σ' w'/\RepV (dV M0 H' σ') σ' H'.F w' v d/\Stp σ w σ' w' /\
  Keeps (dV M0 H σ) σ H.F w (dV M0 H' σ') σ' H'.F w'
theorem OpS.next {x:Sem Value}{d:D}{H':AHeap}(h:OpS P x M0 H σ w d H'):Y1 P (do Pure.pure (Next.value (<- x))) M0 H σ w d H':=by
 obtain ⟨v,a,σ',b,g,f,e,c⟩:=h;exact ⟨v,a,σ',.inl (iw b),g,f,e,c⟩
theorem OpU.next {x:Sem Unit}{H':AHeap}(h:OpU P x M0 H σ w H'):Y1 P (do x;Pure.pure Next.skip) M0 H σ w .junk H':=by
 obtain ⟨b,σ',c,f,e,d⟩:=h;exact ⟨undef,b,σ',.inr ⟨by simp [c],rfl⟩,f,.junk _,e,d⟩
def EnvR (M:Nat->Prop)(σ:Nat->Option Ow)(N:Nat->Prop)(w:World)(ρ:Operand->Value)(e:Nat->D):Prop :=
 (∀ t,RepV M σ N w (ρ (.tmp t)) (e t))/\(∀ v,ρ (.const v)=v)/\∀ f,ρ (.func f)=.func (.func f) #[] #[]
theorem EnvR.ev {M:Nat->Prop}{N:Nat->Prop}{ρ:Operand->Value}{e:Nat->D}(h:EnvR M σ N w ρ e)(x:Operand):RepV M σ N w (ρ x) (fS e x):=by
 cases x with
 | tmp t=>exact h.1 t
 | const v=>rw [h.2.1];exact Kj v
 | func f=>rw [h.2.2];exact .fn f [] [] rfl (λj u d hu=>by simp at hu)
 | global g=>exact .junk _
theorem EnvR.gi {M:Nat->Prop}{N:Nat->Prop}{ρ:Operand->Value}{e:Nat->D}(h:EnvR M σ N w ρ e)(a:List (Nat × Operand)) :
  Parts M σ N w (a.map λp=>(p.1,ρ p.2)) (a.map λp=>(p.1,fS e p.2)):=by
 refine ⟨by simp [Function.comp_def],λj v d hv hd=>?_⟩;simp only [FY,aN,bV] at hv hd;obtain ⟨p,c,rfl⟩:=hv;obtain ⟨q,b,rfl⟩:=hd;rw [c] at b;cases b
 exact h.ev p.2
theorem MY (m:Rel M0 H σ w)(a:Nat):Rel M0 (H.frz a) σ w/\Keeps (dV M0 H σ) σ H.F w (dV M0 (H.frz a) σ) σ (H.frz a).F w/\(H.frz a).F=H.F /\
  ∀ i,((H.frz a).get i).map (·.P)=(H.get i).map (·.P)/\(∀ k,H.get i=some k->k.fz=true\/i=a->∃ k',(H.frz a).get i=some k'/\k'.fz=true/\k'.P=k.P):=by
 unfold AHeap.frz;cases r:H.get a with
 | none =>
  refine ⟨m,.refl _ _ _ _,rfl,λi=>⟨rfl,λk hik h=>?_⟩⟩;grind
 | some k =>
  simp only;have c:∀ i,((H.put a { k with fz:=true }).get i).map (·.P)=(H.get i).map (·.P)/\(∀ k0,H.get i=some k0->k0.fz=true\/i=a->∃ k',(H.put a { k with fz:=true }).get i=some k'/\k'.fz=true/\k'.P=k0.P):=by
   intro i;by_cases s:i=a
   .subst s;refine ⟨by simp [AHeap.put,r],λk0 h0 _=>⟨{ k with fz:=true },by simp [AHeap.put],rfl,?_⟩⟩;grind
   .refine ⟨by simp [AHeap.put,s],λk0 h0 h=>?_⟩;rcases h with h|h
    .exact ⟨k0,by simp [AHeap.put,s,h0],h,rfl⟩
    grind
  by_cases v:k.fz=false
  .obtain ⟨o,u,l⟩:=m.am a k r;obtain ⟨x,d,z,e⟩:=l.row;have p:=Rel.put m (w':=w) r v u { k with fz:=true } o ⟨rfl,rfl,rfl,bC _,λ_ _ _=>rfl⟩ (λb hb=>.inl hb) (.inl rfl) l.ah l.ty l.Y l.H x d z e;simp only [Ja o a u] at p;exact ⟨p.1,p.2.2,rfl,c⟩
  .have y:H.put a { k with fz:=true } = H:=by
    have f:k.fz=true:=by simpa using v
    have q:({ k with fz:=true }:Blk)=k:=by cases k;simp at f;subst f;rfl
    obtain ⟨n,A,g⟩:=H;simp only [AHeap.put,q,AHeap.mk.injEq,true_and];grind
   rw [y] at c ⊢;exact ⟨m,.refl _ _ _ _,rfl,c⟩
theorem gP (a:List Nat):∀ {H:AHeap},Rel M0 H σ w->Rel M0 (gC a H) σ w/\Keeps (dV M0 H σ) σ H.F w (dV M0 (gC a H) σ) σ (gC a H).F w/\(gC a H).F=H.F /\
  ∀ i,((gC a H).get i).map (·.P)=(H.get i).map (·.P)/\(∀ k,H.get i=some k->k.fz=true\/i∈a->∃ k',(gC a H).get i=some k'/\k'.fz=true/\k'.P=k.P):=by
 induction a with
 | nil=>intro H o;exact ⟨o,.refl _ _ _ _,rfl,λi=>⟨rfl,λk e h=>⟨k,e,by simpa using h,rfl⟩⟩⟩
 | cons id a ih =>
  intro H o;obtain ⟨v,u,t,l⟩:=MY o id;obtain ⟨z,y,x,m⟩:=ih v;refine ⟨z,u.trans y,x.trans t,λi=>⟨(m i).1.trans (l i).1,λk e h=>?_⟩⟩;rcases h with h|h
  .obtain ⟨c,r,q,p⟩:=(l i).2 k e (.inl h);obtain ⟨b,j,g,f⟩:=(m i).2 c r (.inl q);exact ⟨b,j,g,f.trans p⟩
  .rcases aW.1 h with rfl|h
   .obtain ⟨c,r,q,p⟩:=(l i).2 k e (.inr rfl);obtain ⟨b,j,g,f⟩:=(m i).2 c r (.inl q);exact ⟨b,j,g,f.trans p⟩
   .have n:=(l i).1;rw [e] at n;cases d:(H.frz id).get i with
    | none=>rw [d] at n;cases n
    | some c =>
     obtain ⟨b,j,g,f⟩:=(m i).2 c d (.inr h);refine ⟨b,j,g,f.trans ?_⟩;simp_all
theorem CX {v:Value}{e n:Nat}{k:Blk}(x:Rel M0 H σ w)(C:RepV (dV M0 H σ) σ H.F w v (.own e n))(F:H.get e=some k)(N:k.fz=true)(L:k.P.length=n) :
  RepV (dV M0 H σ) σ H.F w v (.list k.P):=by
 obtain ⟨o,q,l⟩:=x.am e k F;obtain ⟨A,b,m,c⟩:=l.row;cases C
 rename_i Q O h;rcases h o q with R|⟨P,rfl⟩
 .have:=l.ah;omega
 .rcases b.2 with ⟨f,I⟩|⟨g,y,J,a,_,_,r,s,_⟩
  .rw [f,bM I];exact .listN
  .have d:o.block=some g:=by simp [Ow.block,a,Value.ownBlock]
   rw [a];refine .list ⟨g,0,none⟩ y o.H A k.P r s l.H c.len m (λj u hu=>⟨?_,b.cells (g:=g) (by simpa [Ow.block] using d) j u hu⟩) c.Z;rintro (D|⟨i,K,B,E,G,p,t⟩)
   .exact (x.lt e o g q d).2 D
   .have M:=x.inj i e B o g p q t d;grind
theorem Q7 {M:Nat->Prop}{N:Nat->Prop}{ad:Addr}{g sz:Nat}{es:UE}{a b:Nat}(h:RepV M σ N w (.slice (some ad) es.length g) (.list es))(k:∀ c∈es,c.length=sz)(A:a<=b)(K:b<=es.length) :
  RepV M σ N w (.slice (some (if g=a then ad else ad.add (a * sz))) (b - a) (g - a)) (.list ((es.take b).drop a)):=by
 rcases u3 h with ⟨F,_⟩|⟨G,v,z,y,E,i,o,l,B,J,s⟩
 .cases F
 .cases E
  have n:((es.take b).drop a).length=b - a:=by simp;omega
  have m:∀ c∈(es.take b).drop a,c.length=sz:=λc hc=>k c (dD (e9 hc));have f:((es.take b).drop a).flatten=(es.flatten.take (b * sz)).drop (a * sz):=by
   rw [q8 _ a (λc hc=>k c (dD hc)),q7 _ b k]
  by_cases q:g=a
  .have r:b=a:=aD;subst r;have t:(es.take b).drop b=[]:=iW ie;have:=RepV.list (M:=M) (σ:=σ) (N:=N) (w:=w) ad (b - b) 0 [] [] aE aE aE rfl aE (λj u e=>by simp at e) (λj u d e=>by simp at e);grind
  .rw [if_neg q];have I:=RepV.list (M:=M) (σ:=σ) (N:=N) (w:=w) (ad.add (a * sz)) (g - a) sz ((y.take (b * sz)).drop (a * sz)) ((es.take b).drop a) (by rw [n];omega) aD m
    (by rw [f];simp [i.len]) (λu e=>o u (dD (e9 e))) (λj u e=>by
     rw [cY,cO] at e;split at e
     .obtain ⟨O,L⟩:=l _ u e;rw [jB,Bn];grind
     .cases e) (λj u d e p=>by
     rw [f,cY,cO] at p;rw [cY,cO] at e;split at e
     .rename_i C;rw [if_pos C] at p;exact i.Z _ u d e p
     .cases e)
   grind
theorem TA {v:Value}{i n f m:Nat}{k:Blk}(x:Rel M0 H σ w)(z:RepV (dV M0 H σ) σ H.F w v (.win i n f m))(t:H.get i=some k)(A:k.fz=true)(s:k.P.length=n) :
  RepV (dV M0 H σ) σ H.F w v (.list ((k.P.take m).drop f)):=by
 obtain ⟨o,D,l⟩:=x.am i k t;have r:=l.ah;cases z
 rename_i E B j h;have q:WV o v n f m:=by
  grind
 have a:RepV (dV M0 H σ) σ H.F w o.val (.list k.P):=by
  refine CX (n:=n) x (.own o.val i n B ?_ λo' ho'=>?_) t A s
  .rcases q with ⟨g,_⟩|⟨b,p,g,_⟩<;>rw [g]<;>rfl
  grind
 rcases q with ⟨g,y,C⟩|⟨b,p,g,u,y⟩
 .subst y C;simpa using RepV.listN
 .rw [g,<- s] at a;have:=Q7 a (λc u=>l.H c u) j.1 aD;have e:(Addr.add ⟨b,0,none⟩ (f * o.H))=⟨b,f * o.H,none⟩:=by simp [jK]
  grind
theorem rQ {H H':AHeap}(h:∀ i,(H'.get i).map (·.P)=(H.get i).map (·.P))(d:D):f5 H' d=f5 H d:=by
 cases d<;>try rfl
 .rename_i a n;simp only [f5];grind
 .rename_i a n b c;simp only [f5];grind
theorem n6 {v:Value}{d:D}(h:Rel M0 H σ w)(a:RepV (dV M0 H σ) σ H.F w v d)(g:∀ i∈mM d,∀ k,H.get i=some k->k.fz=true) :
  RepV (dV M0 H σ) σ H.F w v (f5 H d):=by
 cases d<;>try exact a
 .rename_i c n;simp only [f5];cases e:H.get c with
  | none=>exact a
  | some k =>
   simp only;split
   .rename_i f;exact CX h a e (g c (by simp [mM]) k e) f
   .exact a
 .rename_i c n j l;simp only [f5];cases e:H.get c with
  | none=>exact a
  | some k =>
   simp only;split
   .rename_i f;exact TA h a e (g c (by simp [mM]) k e) f
   .exact a
theorem n5 {v:Value}{d:D}(t:Rel M0 H σ w)(e:RepV (dV M0 H σ) σ H.F w v d)(a:List Nat)(h:∀ i∈eJ d,i∈a) :
  RepV (dV M0 (gC a H) σ) σ (gC a H).F w v (jN H d):=by
 obtain ⟨o,z,A,m⟩:=gP a t;have b:=e.q z;have c:∀ i∈a,∀ k,(gC a H).get i=some k->k.fz=true:=λi h k hk=>by
  have l:=(m i).1;rw [hk] at l;cases g:H.get i with
  | none=>rw [g] at l;cases l
  | some k0 =>
   grind
 cases d with
 | agg cs =>
  cases b
  rename_i p f s r;refine .agg p _ (bY s) f λj u x hu e=>?_;rw [aN,bV] at e;obtain ⟨y,q,rfl⟩:=e;rw [<- rQ (λi=>(m i).1) y];refine n6 o (r j u y hu q) λi hii k hk=>c i (h i ?_) k hk;simp only [eJ,bQ];grind
 | _ =>
  simp only [jN];rw [<- rQ (λi=>(m i).1)];exact n6 o b λi hii k hk=>c i (h i hii) k hk
theorem TU {md:Nat->Bool}{v:Value}{d:D}(e:Rel M0 H σ w)(c:RepV (dV M0 H σ) σ H.F w v d)(a:List Nat)(b:∀ i∈OW md d,i∈a) :
  RepV (dV M0 (gC a H) σ) σ (gC a H).F w v (U6 md H d):=by
 unfold U6;unfold OW at b;split
 .exact c.q (gP a e).2.1
 .rename_i h;rw [if_neg h] at b;exact n5 e c a b
theorem Gx {x:Operand}(h:j5 x=true):x=.const (.slice none 0 0):=by grind [j5]
theorem Jh {nid:Nat}(B:¬ H.F nid){md:Nat->Bool}{e:Nat->D}{o:Oper}{ρ:Operand->Value}(z:Rel M0 H σ w)(r:EnvR (dV M0 H σ) σ H.F w ρ e)(h:(Hr P nid md e o H).cond) :
  (Hr P nid md e o H).X/\Y1 P (execOp ρ o) M0 H σ w (Hr P nid md e o H).val (Hr P nid md e o H).heap:=by
 obtain ⟨b4,op,E,b3,b1,b0⟩:=o;unfold Hr execOp at *;simp only at h ⊢;cases op<;>try (exact h.elim)
 case move x =>
  simp only at h ⊢;by_cases V:j5 x=true
  .rw [if_pos V] at h ⊢;have J:=Gx V;subst J;obtain ⟨k,g⟩:=MA (P:=P) B (x:=(Pure.pure (ρ (.const (.slice none 0 0))):Sem Value)) z (by show Result.ok (ρ _) w=_;rw [r.2.1]) h;obtain ⟨v,T,σ',hr,h3⟩:=g;have U:Result.ok (ρ (.const (.slice none 0 0))) w=Result.ok v T:=hr;injection U with e1 e2;subst e1;subst e2;exact ⟨k,_,_,σ',.inl rfl,h3⟩
  .rw [if_neg V] at h ⊢;exact ⟨trivial,ρ x,w,σ,.inl rfl,z,r.ev x,.refl _ _,.refl _ _ _ _⟩
 case assign x =>
  simp only at h ⊢;by_cases V:j5 x=true
  .rw [if_pos V] at h ⊢;have J:=Gx V;subst J;obtain ⟨k,g⟩:=MA (P:=P) B (x:=(Pure.pure (ρ (.const (.slice none 0 0))):Sem Value)) z (by show Result.ok (ρ _) w=_;rw [r.2.1]) h;obtain ⟨v,T,σ',hr,h3⟩:=g;have U:Result.ok (ρ (.const (.slice none 0 0))) w=Result.ok v T:=hr;injection U with e1 e2;subst e1;subst e2;exact ⟨k,_,_,σ',.inl rfl,h3⟩
  .rw [if_neg V] at h ⊢;exact ⟨trivial,ρ x,w,σ,.inl rfl,z,r.ev x,.refl _ _,.refl _ _ _ _⟩
 case pick c a b =>
  obtain ⟨k,g⟩:=Tb z (r.ev c) (r.ev a) (r.ev b) h;exact ⟨k,by simpa using g.next⟩
 case alloc t =>
  obtain ⟨k,g⟩:=R8 (P:=P) B z h;exact ⟨k,g.next⟩
 case box t x =>
  obtain ⟨k,g⟩:=WG (P:=P) B z (r.ev x) h;exact ⟨k,g.next⟩
 case build t ps =>
  obtain ⟨k,g⟩:=RT (P:=P) z (r.gi ps.toList) h;refine ⟨k,?_⟩;have:=g.next;rw [show (List.map (λp=>(p.1,ρ p.2)) ps.toList).toArray=ps.map (λp=>(p.1,ρ p.2)) by rw [<- Array.toList_map]] at this;exact this
 case buildSlice t n ps =>
  obtain ⟨f1,f2,f3,f4⟩:=gP (ps.toList.flatMap λp=>OW md (fS e p.2)) z;have M:Parts (dV M0 (gC (ps.toList.flatMap λp=>OW md (fS e p.2)) H) σ) σ (gC (ps.toList.flatMap λp=>OW md (fS e p.2)) H).F w
    (ps.toList.map λp=>(p.1,ρ p.2)) (ps.toList.map λp=>(p.1,U6 md H (fS e p.2))):=by
   refine ⟨by simp [Function.comp_def],λj v d S N=>?_⟩;simp only [FY,aN,bV] at S N;obtain ⟨p,hp,rfl⟩:=S;obtain ⟨q,hq,rfl⟩:=N;rw [hp] at hq;cases hq
   exact TU z (r.ev p.2) _ λi W=>bQ.2 ⟨p,aL hp,W⟩
  obtain ⟨k,g⟩:=FK (P:=P) (by rw [f3];exact B) f1 M h;refine ⟨k,?_⟩;have:=g.next;rw [show (List.map (λp=>(p.1,ρ p.2)) ps.toList).toArray=ps.map (λp=>(p.1,ρ p.2)) by rw [<- Array.toList_map]] at this;obtain ⟨v,T,σ',a1,a2,a3,a4,a5⟩:=this;exact ⟨v,T,σ',a1,a2,a3,a4,f2.trans a5⟩
 case load t a =>
  obtain ⟨k,g⟩:=Tl (P:=P) z (r.ev a) h;exact ⟨k,g.next⟩
 case store t a v =>
  have Z:∀ (G:AHeap) (Q R:D),Rel M0 G σ w->Keeps (dV M0 H σ) σ H.F w (dV M0 G σ) σ G.F w->RepV (dV M0 G σ) σ G.F w (ρ a) Q->RepV (dV M0 G σ) σ G.F w (ρ v) R ->
    (nO P t Q R G).cond->(nO P t Q R G).X/\Y1 P (do Instr.storeAt t (ρ a) (ρ v);Pure.pure Next.skip) M0 H σ w (nO P t Q R G).val (nO P t Q R G).heap:=by
   intro G Q R a8 a9 a6 a7 F;have g:=PD (P:=P) a8 a6 a7 F;have X:(nO P t Q R G).X/\(nO P t Q R G).val=.junk:=by
    simp only [nO] at F ⊢;split at F
    .split at F
     .split at F
      .exact ⟨trivial,rfl⟩
      .exact F.elim
     .exact F.elim
    .exact F.elim
   refine ⟨X.1,?_⟩;rw [X.2];obtain ⟨v',T,σ',a1,a2,a3,a4,a5⟩:=g.next;exact ⟨v',T,σ',a1,a2,a3,a4,a9.trans a5⟩
  simp only at h ⊢;by_cases hm:md 1000000=true
  .rw [if_pos hm] at h ⊢;obtain ⟨f1,f2,f3,f4⟩:=gP (eJ (fS e v)) z;exact Z _ _ _ f1 f2 ((r.ev a).q f2) (n5 z (r.ev v) _ λi W=>W) h
  .rw [if_neg hm] at h ⊢;exact Z H _ _ z (.refl _ _ _ _) (r.ev a) (r.ev v) h
 case nilCheck x =>
  obtain ⟨a,k,g,h3,h4⟩:=Jn z (r.ev x) h;refine ⟨g,ρ x,w,σ,.inl ?_,by rw [h4];exact z,by rw [h4];exact h3,.refl _ _,by rw [h4];exact .refl _ _ _ _⟩;simp [k]
 case binOp op t x y t' =>
  obtain ⟨k,g⟩:=WC (P:=P) (t:=t) (ox:=x) (oy:=y) z (r.ev x) (r.ev y) h;exact ⟨k,g.next⟩
 case unOp op t x =>
  obtain ⟨k,g⟩:=W9 (P:=P) z (r.ev x) h;exact ⟨k,g.next⟩
 case convert s d x =>
  obtain ⟨k,g⟩:=LK (P:=P) z (r.ev x) h;exact ⟨k,g.next⟩
 case makeFunc fn first caps =>
  cases fn<;>try (exact h.elim)
  rename_i f;simp only at h ⊢;by_cases X:first.isEmpty=true
  .rw [if_pos X];have:first=#[]:=by simpa using X
   subst this;refine ⟨trivial,⟨.func (.func f) #[] (caps.toList.map ρ).toArray,w,σ,.inl (by simp [Instr.makeFunc];rw [<- Array.toList_map]),z,.fn f _ _ aE (λj u d hu N=>?_),.refl _ _,.refl _ _ _ _⟩⟩;simp only [aN,bV] at hu N;obtain ⟨p,hp,rfl⟩:=hu;obtain ⟨q,hq,rfl⟩:=N;rw [hp] at hq;cases hq
   exact r.ev p
  .rw [if_neg X] at h;exact h.elim
 case makeSlice t l c =>
  obtain ⟨k,g⟩:=Ti (P:=P) B z (r.ev l) (r.ev c) h;exact ⟨k,g.next⟩
 case slice t x lo W mx =>
  cases mx with
  | some m=>exact h.elim
  | none =>
   obtain ⟨k,g⟩:=PJ (P:=P) (vlo:=lo.map ρ) (vhi:=W.map ρ) z (r.ev x) (λv d S N=>by
    cases lo with
    | none=>cases S
    | some o=>cases S;cases N;exact r.ev o) (by cases lo<;>rfl) (λv d S N=>by
    cases W with
    | none=>cases S
    | some o=>cases S;cases N;exact r.ev o) (by cases W<;>rfl) h
   exact ⟨k,g.next⟩
 case fieldAddr t x f =>
  obtain ⟨k,g⟩:=Hj (P:=P) z (r.ev x) h;exact ⟨k,g.next⟩
 case indexAddr t x i =>
  obtain ⟨k,g⟩:=Hc (P:=P) z (r.ev x) (r.ev i) h;exact ⟨k,g.next⟩
 case index t x i =>
  obtain ⟨k,g⟩:=Ri (P:=P) z (r.ev x) (r.ev i) h;exact ⟨k,g.next⟩
 case extract t i =>
  obtain ⟨k,g⟩:=LF (P:=P) z (r.ev t) h;exact ⟨k,g.next⟩
 case call c =>
  obtain ⟨O,C,ts⟩:=c;cases O<;>try (exact h.elim)
  rename_i b;obtain ⟨C⟩:=C;obtain ⟨ts⟩:=ts;simp only [List.map_toArray,resolve,invoke,Y1,Sem.run_bind,Sem.run_pure,Result.andThen_ok] at h ⊢;unfold yV at *;split at h
  .rename_i xd td K;match C,K with
   | [ox],K =>
    cases K
    obtain ⟨k,g⟩:=Wi (P:=P) (ty:=E) z (r.ev ox) h;exact ⟨k,by simpa [Y1,builtin] using g.next⟩
  .rename_i xd yd td b2 K;match C,K with
   | [ox,oy],K =>
    cases K
    obtain ⟨k,g⟩:=LR (P:=P) B (ty:=E) z (r.ev ox) (r.ev oy) h;exact ⟨k,by simpa [Y1,builtin] using g.next⟩
  .rename_i xd td K;match C,K with
   | [ox],K =>
    cases K
    obtain ⟨k,g⟩:=RP (P:=P) (ty:=E) z (r.ev ox) h;exact ⟨k,by simpa [Y1,builtin] using g.next⟩
  .rename_i x y J;match C,J with
   | [ox,oy],J =>
    cases J
    obtain ⟨k,g⟩:=MF (P:=P) (b:=.min) (mx:=false) (t:=E)  rfl z (r.ev ox) (r.ev oy) h;exact ⟨k,by simpa [Y1,builtin] using g.next⟩
  .rename_i x y J;match C,J with
   | [ox,oy],J =>
    cases J
    obtain ⟨k,g⟩:=MF (P:=P) (b:=.max) (mx:=true) (t:=E)  rfl z (r.ev ox) (r.ev oy) h;exact ⟨k,by simpa [Y1,builtin] using g.next⟩
  .exact h.elim
end
end Go.Abs
end

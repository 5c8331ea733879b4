/- Each operation of the machine does what the model's operation does: numbers, slices, fields, elements. Each operation of the machine does what the model's operation does: conversions, closures, slices, fields, elements. -/
import Derived.Test.YtmmhnfghklppiaaGreatWk4
import Derived.IntWalk
namespace Go.Proofs.YtmmhnfghklppiaaGreat.Vm
open Go Go.RowKit
set_option linter.unusedVariables false
set_option linter.unusedSimpArgs false
section
variable {C:jH} {P:Program} {S:Bool->Nat->Prop} {base:Nat} {φ:jO} {H:Heap} {w:World} {env:Env} {a:Act} {e:Eff} {o:Oper} {I:Bool->Nat->Prop}
theorem bK.j6 {k:Bool} {sz:Nat} {es:List (List PV)} {v:Value} (h:bK I w (.slice k sz es) v):∃ (b o cap:Nat) (val:Nat->Nat->Value),v=.slice (some ⟨b,o,none⟩) es.length cap/\es.length<=cap /\
  (∀ (i:Nat) e,es[i]?=some e->e.length=sz)/\(∀ (i:Nat) e (j:Nat) p,es[i]?=some e->e[j]?=some p->I k b/\w.cell? ⟨b,o+i*sz+j,none⟩=some (val i j)) /\
  (∀ (i:Nat) e (j:Nat) p,es[i]?=some e->e[j]?=some p->bK I w p (val i j)):=by
 cases h with
 | slice _ _ _ b o len cap val hlen hc hz hm h=>subst hlen;exact ⟨b,o,cap,val,rfl,hc,hz,hm,h⟩
theorem bK.xA {k:Bool} {cs:List PV} {off:Nat} {v:Value} (h:bK I w (.ptr k cs off) v):∃ (b o:Nat) (val:Nat->Value),v=.pointer (some ⟨b,o+off,none⟩) /\
  (∀ (j:Nat) p,cs[j]?=some p->I k b/\w.cell? ⟨b,o+j,none⟩=some (val j))/\(∀ (j:Nat) p,cs[j]?=some p->bK I w p (val j)):=by
 cases h with
 | ptr _ _ _ b o o' val ho hm h=>subst ho;exact ⟨b,o,val,rfl,hm,h⟩
theorem Qk {d:wO} {x:AV} {v:Value} (h:aG I φ w x v) {b:Bool} (hn:isNil d x=some b) :
  (d=.slice/\∃ ad n c,v=.slice ad n c/\ad.isNone=b)\/(d=.pointer/\∃ ad,v=.pointer ad/\ad.isNone=b) \/
  (d=.func/\((b=true/\v=.nilFunc)\/(b=false/\∃ f vs,v=.func (.func f) #[] vs))):=by
 unfold isNil at hn
 split at hn
 .have:=h.aA.jw;subst this;cases d<;>simp at hn;subst hn;exact .inl ⟨rfl,none,0,0,rfl,rfl⟩
 .have:=h.aA.Gz;subst this;cases d<;>simp at hn;subst hn;exact .inr (.inl ⟨rfl,none,rfl,rfl⟩)
 .have:=h.aA.GA;subst this;cases d<;>simp at hn;subst hn;exact .inr (.inr ⟨rfl,.inl ⟨rfl,rfl⟩⟩)
 .obtain ⟨b',o,cap,val,rfl,_⟩:=h.aA.j6;cases d<;>simp at hn;subst hn;exact .inl ⟨rfl,_,_,_,rfl,rfl⟩
 .obtain ⟨b',n,cap,_,rfl,_⟩:=h.iY;cases d<;>simp at hn;subst hn;exact .inl ⟨rfl,_,_,_,rfl,rfl⟩
 .obtain ⟨b',o,val,rfl,_⟩:=h.aA.xA;cases d<;>simp at hn;subst hn;exact .inr (.inl ⟨rfl,_,rfl,rfl⟩)
 .obtain ⟨b',n,_,rfl⟩:=h.l7;cases d<;>simp at hn;subst hn;exact .inr (.inl ⟨rfl,_,rfl,rfl⟩)
 .obtain ⟨vs,rfl,_⟩:=h.aA.lD;cases d<;>simp at hn;subst hn;exact .inr (.inr ⟨rfl,.inr ⟨rfl,_,_,rfl⟩⟩)
 .obtain ⟨vs,rfl,_⟩:=h.lD;cases d<;>simp at hn;subst hn;exact .inr (.inr ⟨rfl,.inr ⟨rfl,_,_,rfl⟩⟩)
 .simp at hn
theorem zgh (hE:bq (aW S base φ H w) φ w env a) {X:Operand} {x:aa} (hx:zD X=some x) (aj:o.op=.nilCheck X)
  (hn:isNil .pointer (x.eval env)=some false\/isNil .func (x.eval env)=some false):jA C S base φ H w (.val (x.eval env)) ((execOp a.eval o).run P w):=by
 have h:=zG hE hx
 refine zU (v:=a.eval X) ?_ h
 rcases hn with hn|hn
 .rcases Qk h hn with ⟨h0,_⟩|⟨_,ad,hv,hb⟩|⟨h0,_⟩
  .cases h0
  .cases ad with
   | none=>simp at hb
   | some ad=>simp [execOp,aj,hv]
  .cases h0
 .rcases Qk h hn with ⟨h0,_⟩|⟨h0,_⟩|⟨_,⟨h0,_⟩|⟨_,f,vs,hv⟩⟩
  .cases h0
  .cases h0
  .cases h0
  .simp [execOp,aj,hv]
theorem znJ {op:BinOp} {k:IntKind} {x y:Int} {t:TypeId} {p:PV} (aj:¬ (op=.shl\/op=.shr)) (h:BR op k x y=some p) :
  ∃ v,(binOp op t (.int k x) (.int k y)).run P w=.ok v w/\bK I w p v:=by
 have h1:op≠.shl:=fun e=>aj (.inl e);have h2:op≠.shr:=fun e=>aj (.inr e);unfold BR at h
 split at h
 .simp at h;subst h;exact ⟨_,by simp [binOp,Op.intArith],.int _ _⟩
 .simp at h;subst h;exact ⟨_,by simp [binOp,Op.intArith],.int _ _⟩
 .simp at h;subst h;exact ⟨_,by simp [binOp,Op.intArith],.int _ _⟩
 .split at h
  .simp at h
  .rename_i h0;simp at h;subst h;exact ⟨_,by simp [binOp,Op.intDiv,h0],.int _ _⟩
 .split at h
  .simp at h
  .rename_i h0;simp at h;subst h;exact ⟨_,by simp [binOp,Op.intDiv,h0],.int _ _⟩
 .simp at h;subst h;exact ⟨_,by simp [binOp,Op.intBits],.int _ _⟩
 .simp at h;subst h;exact ⟨_,by simp [binOp,Op.intBits],.int _ _⟩
 .simp at h;subst h;exact ⟨_,by simp [binOp,Op.intBits],.int _ _⟩
 .simp at h;subst h;exact ⟨_,by simp [binOp,Op.intBits],.int _ _⟩
 .unfold Ls at h
  split at h<;>simp at h<;>subst h<;>exact ⟨_,by simp [binOp,Op.intCmp],.bool _⟩
theorem zlc {op:BinOp} {k k':IntKind} {x y:Int} {t:TypeId} {p:PV} (h:VG op k x y=some p) :
  ∃ v,(binOp op t (.int k x) (.int k' y)).run P w=.ok v w/\bK I w p v:=by
 unfold VG at h
 split at h
 .simp at h
 .rename_i h0
  split at h
  .simp at h;subst h;exact ⟨_,by simp [binOp,Op.shift,h0],.int _ _⟩
  .simp at h;subst h;exact ⟨_,by simp [binOp,Op.shift,h0],.int _ _⟩
  .simp at h
theorem zny {op:BinOp} {x y:ByteArray} {t:TypeId} {p:PV} (h:VH op x y=some p) :
  ∃ v,(binOp op t (.string x) (.string y)).run P w=.ok v w/\bK I w p v:=by
 unfold VH at h
 split at h
 .simp at h;subst h;exact ⟨_,by simp [binOp,Op.stringOp],.bool _⟩
 .simp at h;subst h;exact ⟨_,by simp [binOp,Op.stringOp],.bool _⟩
 .simp at h;subst h;exact ⟨_,by simp [binOp,Op.stringOp],.bool _⟩
 .split at h
  .rename_i h0;simp at h;subst h
   refine ⟨.string (x++y),?_,.str _⟩
   simp only [binOp,Op.stringOp];rw [if_neg]
   .rfl
   .simp [IntKind.max,IntKind.signed,IntKind.bits];omega
  .simp at h
 .simp at h
def Yd (P:Program) (t:TypeId):wO->Prop
 | .num=>(∃ k,P.underlying t=some (.int k))\/P.underlying t=some .string
 | .bool=>P.underlying t=some .bool
 | .slice=>∃ e,P.underlying t=some (.slice e)
 | .pointer=>∃ e,P.underlying t=some (.pointer e)
 | .func=>∃ x y z,P.underlying t=some (.func x y z)
theorem VS {t:TypeId} {x y:Value} {b:Bool} (h:∀ d,(Op.equalIn (d+1) t x y).run P w=.ok b w):(Op.equal t x y).run P w=.ok b w:=by
 have:=h 9999
 simpa [Op.equal,Op.maxDepth] using this
theorem zoA {d:wO} {t:TypeId} {x y:AV} {v u:Value} (hk:Yd P t d) (hx:aG I φ w x v) (hy:aG I φ w y u) {b:Bool} (h:Lt d x y=some b) :
  (Op.equal t v u).run P w=.ok b w/\(∀ c1 c2,¬ (v=.agg c1/\u=.agg c2))/\(v=.nilIface->False)/\(∀ k n,v≠.int k n)/\(∀ k n,u≠.int k n)/\(∀ s s',¬ (v=.string s/\u=.string s')) /\
  (∀ k n,v≠.float k n)/\(∀ k n m,v≠.complex k n m):=by
 unfold Lt at h;have both:∀ b1 b2,isNil d x=some b1->isNil d y=some b2->(b1=true\/b2=true)->b=(b1&&b2) ->
   (Op.equal t v u).run P w=.ok b w/\(∀ c1 c2,¬ (v=.agg c1/\u=.agg c2))/\(v=.nilIface->False)/\(∀ k n,v≠.int k n)/\(∀ k n,u≠.int k n)/\(∀ s s',¬ (v=.string s/\u=.string s')) /\
  (∀ k n,v≠.float k n)/\(∀ k n m,v≠.complex k n m):=by
  intro b1 b2 h1 h2 Ye hb;rcases Qk hx h1 with ⟨e,ad,n,c,rfl,ha⟩|⟨e,ad,rfl,ha⟩|⟨e,hf⟩
  .subst e;rcases Qk hy h2 with ⟨_,Yf,n',c',rfl,JP⟩|⟨e,_⟩|⟨e,_⟩
   .obtain ⟨el,hu⟩:=hk
    refine ⟨VS fun d=>?_,by simp,by simp,by simp,by simp,by simp,by simp,by simp⟩
    simp only [Op.equalIn,Sem.run_bind,zh hu,Result.andThen_ok]
    cases ad<;>cases Yf<;>simp at ha JP<;>subst ha<;>subst JP<;>simp at Ye<;>simp [hb]
   .cases e
   .cases e
  .subst e;rcases Qk hy h2 with ⟨e,_⟩|⟨_,Yf,rfl,JP⟩|⟨e,_⟩
   .cases e
   .obtain ⟨el,hu⟩:=hk
    refine ⟨VS fun d=>?_,by simp,by simp,by simp,by simp,by simp,by simp,by simp⟩
    simp only [Op.equalIn,Sem.run_bind,zh hu,Result.andThen_ok]
    cases ad<;>cases Yf<;>simp at ha JP<;>subst ha<;>subst JP<;>simp at Ye<;>simp [hb]
   .cases e
  .subst e;rcases Qk hy h2 with ⟨e,_⟩|⟨e,_⟩|⟨_,GR⟩
   .cases e
   .cases e
   .obtain ⟨x1,x2,x3,hu⟩:=hk;rcases hf with ⟨rfl,rfl⟩|⟨rfl,f,vs,rfl⟩<;>rcases GR with ⟨rfl,rfl⟩|⟨rfl,f',vs',rfl⟩
    all_goals
     refine ⟨VS fun d=>?_,by simp,by simp,by simp,by simp,by simp,by simp,by simp⟩
     simp only [Op.equalIn,Sem.run_bind,zh hu,Result.andThen_ok];simp at Ye
     try simp [hb]
 split at h
 .rename_i b2 h1 h2;simp at h;subst h;exact both _ _ h1 h2 (.inl rfl) (by simp)
 .rename_i h1 h2;simp at h;subst h;exact both _ _ h1 h2 (.inr rfl) (by simp)
 .simp at h
 .split at h
  .rename_i x y p q _ _ _;simp at h;subst h;have e1:=hx.iF;have e2:=hy.iF;subst e1;subst e2
   refine ⟨VS fun d=>?_,by simp,by simp,by simp,by simp,by simp,by simp,by simp⟩
   have hu:P.underlying t=some .bool:=hk;simp only [Op.equalIn,Sem.run_bind,zh hu,Result.andThen_ok];rfl
  .simp at h
theorem RX {op:BinOp} {t:TypeId} {X Y:Operand} {v u:Value} (h1:∀ c1 c2,¬ (v=.agg c1/\u=.agg c2)) (h2:v=.nilIface->False):(eqGuard op t X Y v u).run P w=.ok () w:=by
 unfold eqGuard
 cases op<;>simp
 all_goals
  cases v<;>cases u<;>first|rfl|exact (h2 rfl).elim|exact (h1 _ _ ⟨rfl,rfl⟩).elim
theorem zsC (hE:bq (aW S base φ H w) φ w env a) {X Y:Operand} {x y:aa} {op:BinOp} {t t':TypeId} {d:wO} {av:AV} (hx:zD X=some x) (hy:zD Y=some y)
  (hk:Yd P t d) (aj:o.op=.binOp op t X Y t') (h:iM op d (x.eval env) (y.eval env)=some av):jA C S base φ H w (.val av) ((execOp a.eval o).run P w):=by
 have vQ:=zG hE hx;have Bt:=zG hE hy
 suffices hs:∃ v,(eqGuard op t X Y (a.eval X) (a.eval Y)).run P w=.ok () w/\(binOp op t (a.eval X) (a.eval Y)).run P w=.ok v w/\aG (aW S base φ H w) φ w av v by
  obtain ⟨v,h1,h2,h3⟩:=hs
  refine zU (v:=v) ?_ h3
  simp only [execOp,aj,Sem.run_bind,h1,h2,Result.andThen_ok,Sem.run_pure]
 generalize a.eval X=v at *;generalize a.eval Y=u at *;unfold iM at h
 split at h
 .rename_i k p k' q e1 e2;rw [e1] at vQ;rw [e2] at Bt;have f1:=vQ.bF;have f2:=Bt.bF;subst f1;subst f2
  split at h
  .cases hs:VG op k p q with
   | none=>simp [hs] at h
   | some r =>
    simp [hs] at h;subst h;obtain ⟨v,g1,g2⟩:=zlc (P:=P) (w:=w) (t:=t) (k':=k') (I:=aW S base φ H w) hs;exact ⟨v,RX (by simp) (by simp),g1,.pure _ _ g2⟩
  .rename_i LP
   split at h
   .rename_i D7;subst D7
    cases hs:BR op k p q with
    | none=>simp [hs] at h
    | some r =>
     simp [hs] at h;subst h;obtain ⟨v,g1,g2⟩:=znJ (P:=P) (w:=w) (t:=t) (I:=aW S base φ H w) LP hs;exact ⟨v,RX (by simp) (by simp),g1,.pure _ _ g2⟩
   .simp at h
 .rename_i p q e1 e2;rw [e1] at vQ;rw [e2] at Bt;have f1:=vQ.jv;have f2:=Bt.jv;subst f1;subst f2
  cases hs:VH op p q with
  | none=>simp [hs] at h
  | some r =>
   simp [hs] at h;subst h;obtain ⟨v,g1,g2⟩:=zny (P:=P) (w:=w) (t:=t) (I:=aW S base φ H w) hs;exact ⟨v,RX (by simp) (by simp),g1,.pure _ _ g2⟩
 .split at h
  .cases hs:Lt d (x.eval env) (y.eval env) with
   | none=>simp [hs] at h
   | some r =>
    simp [hs] at h;subst h;obtain ⟨g1,g2,g3,g4,g5,g6,g7,g8⟩:=zoA hk vQ Bt hs
    refine ⟨.bool r,RX g2 g3,?_,.pure _ _ (.bool _)⟩
    unfold binOp
    split<;>first
     | contradiction
     | exact absurd rfl (g4 _ _)
     | exact absurd rfl (g7 _ _)
     | exact absurd rfl (g8 _ _ _)
     | exact absurd ⟨rfl,rfl⟩ (g6 _ _)
     | simp [g1]
     | simp_all
  .cases hs:Lt d (x.eval env) (y.eval env) with
   | none=>simp [hs] at h
   | some r =>
    simp [hs] at h;subst h;obtain ⟨g1,g2,g3,g4,g5,g6,g7,g8⟩:=zoA hk vQ Bt hs
    refine ⟨.bool (!r),RX g2 g3,?_,.pure _ _ (.bool _)⟩
    unfold binOp
    split<;>first
     | contradiction
     | exact absurd rfl (g4 _ _)
     | exact absurd rfl (g7 _ _)
     | exact absurd rfl (g8 _ _ _)
     | exact absurd ⟨rfl,rfl⟩ (g6 _ _)
     | simp [g1]
     | simp_all
  .simp at h
theorem ztW (hE:bq (aW S base φ H w) φ w env a) {X:Operand} {x:aa} {op:UnOp} {t:TypeId} {av:AV} (hx:zD X=some x) (aj:o.op=.unOp op t X) (h:NM op (x.eval env)=some av) :
  jA C S base φ H w (.val av) ((execOp a.eval o).run P w):=by
 have hv:=zG hE hx;unfold NM at h
 split at h
 .rename_i b e1;rw [e1] at hv;simp at h;subst h;exact zU (v:=.bool (!b)) (by simp [execOp,aj,hv.iF,Op.unary]) (.pure _ _ (.bool _))
 .rename_i k n e1;rw [e1] at hv;simp at h;subst h;exact zU (v:=.int k (k.wrap (-n))) (by simp [execOp,aj,hv.bF,Op.unary,Op.intArith]) (.pure _ _ (.int _ _))
 .simp at h
end
section
variable {C:jH} {P:Program} {S:Bool->Nat->Prop} {base:Nat} {φ:jO} {H:Heap} {w:World} {env:Env} {a:Act} {e:Eff} {o:Oper} {I:Bool->Nat->Prop}
theorem aG.nu {cs:List AV} {v:Value} (h:aG I φ w (.agg cs) v):∃ vs,v=.agg vs:=by
 cases h with
 | agg _ vs _ _=>exact ⟨vs,rfl⟩
theorem bK.nu {cs:List PV} {v:Value} (h:bK I w (.agg cs) v):∃ vs,v=.agg vs:=by
 cases h with
 | agg _ vs _ _=>exact ⟨vs,rfl⟩
theorem zpt (hE:bq (aW S base φ H w) φ w env a) {X:Operand} {x:aa} {s t:TypeId} {k k' k0:IntKind} {n:Int} (hx:zD X=some x) (hs:P.underlying s=some (.int k0)) (ht:P.underlying t=some (.int k))
  (aj:o.op=.convert s t X) (hv:x.eval env=.pure (.int k' n)):jA C S base φ H w (.val (.pure (.int k (k.wrap n)))) ((execOp a.eval o).run P w):=by
 have h:=zG hE hx;rw [hv] at h
 refine zU (v:=.int k (k.wrap n)) ?_ (.pure _ _ (.int _ _))
 simp only [execOp,aj,convert,Sem.run_bind,zh hs,zh ht,Result.andThen_ok,h.bF];rfl
theorem zkK (hE:bq (aW S base φ H w) φ w env a) {f:FuncId} {first caps:Array Operand} {xs:List aa} (h0:first.size=0) (hx:yG caps.toList=some xs) (aj:o.op=.makeFunc (.func f) first caps) :
  jA C S base φ H w (.val (JK f (xs.map (·.eval env)))) ((execOp a.eval o).run P w):=by
 have h1:first=#[]:=Array.eq_empty_of_size_eq_zero h0
 subst h1;have hr:=RO hE hx
 refine zU (v:=.func (.func f) #[] (caps.map a.eval)) ?_ (by have h7:=zpf (f:=f) hr;have e:(caps.toList.map a.eval).toArray=caps.map a.eval:=(by apply Array.ext';simp);rw [e] at h7;exact h7)
 simp [execOp,aj,Instr.makeFunc]
theorem zk7 (hE:bq (aW S base φ H w) φ w env a) {f:FuncId} {first caps:Array Operand} {xs:List aa} (h0:caps.size=0) (hx:yG first.toList=some xs) (aj:o.op=.makeFunc (.func f) first caps) {ps:List PV} (hp:qp (xs.map (·.eval env))=some ps) :
  jA C S base φ H w (.val (.pure (.lQ f ps))) ((execOp a.eval o).run P w):=by
 have h1:caps=#[]:=Array.eq_empty_of_size_eq_zero h0;subst h1;have hr:=RO hE hx;have he:=Qj hp
 refine zU (v:=.func (.func f) (first.map a.eval) #[]) ?_ (.pure _ _ (.lQ f ps _ ?_ fun i p v h1 h2=>?_))
 .simp [execOp,aj,Instr.makeFunc]
 .have:=hr.1;rw [he] at this
  simpa using this
 .refine (hr.2 i (.pure p) v ?_ ?_).aA
  .rw [he];simp [h1]
  .simpa using h2
theorem VT (hE:bq (aW S base φ H w) φ w env a) {X:Operand} {x:aa} {i:Nat} {av:AV} (hx:zD X=some x) (aj:o.op=.extract X i)
  (h:(∃ vs,x.eval env=.pure (.aQ vs)/\∃ p,vs[i]?=some p/\av=.pure p)\/(∃ vs,x.eval env=.aQ vs/\vs[i]?=some av)):jA C S base φ H w (.val av) ((execOp a.eval o).run P w):=by
 have hv:=zG hE hx;rcases h with ⟨vs,e1,p,e2,rfl⟩|⟨vs,e1,e2⟩
 .rw [e1] at hv;obtain ⟨us,f1,f2,f3⟩:=hv.aA.tN;have hi:i < vs.length:=(List.getElem?_eq_some_iff.1 e2).1;have hu:us[i]?=some (us[i]'(by omega)):=Array.getElem?_eq_getElem (by omega)
  refine zU (v:=us[i]'(by omega)) ?_ (.pure _ _ (f3 i p _ e2 hu))
  simp [execOp,aj,f1,Instr.extract,hu]
 .rw [e1] at hv;obtain ⟨us,f1,f2,f3⟩:=hv.tN;have hi:i < vs.length:=(List.getElem?_eq_some_iff.1 e2).1;have hu:us[i]?=some (us[i]'(by omega)):=Array.getElem?_eq_getElem (by omega)
  refine zU (v:=us[i]'(by omega)) ?_ (f3 i _ _ e2 hu)
  simp [execOp,aj,f1,Instr.extract,hu]
theorem zn6 (hE:bq (aW S base φ H w) φ w env a) {X Y:Operand} {x y:aa} {t:TypeId} {s:ByteArray} {k:IntKind} {n:Int} {b:UInt8} (hx:zD X=some x) (hy:zD Y=some y) (ht:P.underlying t=some .string)
  (aj:o.op=.index t X Y) (hs:x.eval env=.pure (.str s)) (hn:y.eval env=.pure (.int k n)) (h0:0<=n) (hb:s[n.toNat]?=some b) :
  jA C S base φ H w (.val (.pure (.int .u8 b.toNat))) ((execOp a.eval o).run P w):=by
 have h1:=zG hE hx;rw [hs] at h1;have h2:=zG hE hy;rw [hn] at h2
 refine zU (v:=.int .u8 b.toNat) ?_ (.pure _ _ (.int _ _))
 simp only [execOp,aj,Instr.index,h1.jv,h2.bF,asIntOf,Sem.run_bind,Sem.run_pure,Result.andThen_ok,zh ht];rw [if_pos h0,hb];rfl
theorem zlC (hE:bq (aW S base φ H w) φ w env a) {X:Operand} {x:aa} {t e:TypeId} {n:Nat} {c:Call} (hx:zD X=some x) (ht:P.underlying t=some (.array n e)) (aj:o.op=.call c) (hc:c.callee=.builtin .len)
  (h1:c.args.toList=[X]) (h2:c.argTypes.toList=[t]):jA C S base φ H w (.val (.pure (.int .i64 n))) ((execOp a.eval o).run P w):=by
 have ha:c.args=#[X]:=by rw [<- h1]
 have hb:c.argTypes=#[t]:=by rw [<- h2]
 refine zU (v:=.int .i64 n) ?_ (.pure _ _ (.int _ _))
 simp [execOp,aj,resolve,hc,invoke,builtin,Builtin.len_,ha,hb,zh ht,goInt]
theorem VU (hE:bq (aW S base φ H w) φ w env a) {X:Operand} {x:aa} {t:TypeId} {c:Call} {n:Nat} (hx:zD X=some x) (ht:P.underlying t=some .string\/∃ e,P.underlying t=some (.slice e)) (aj:o.op=.call c) (hc:c.callee=.builtin .len)
  (h1:c.args.toList=[X]) (h2:c.argTypes.toList=[t])
  (h:(P.underlying t=some .string/\∃ s,x.eval env=.pure (.str s)/\n=s.size)\/((∃ e,P.underlying t=some (.slice e))/\((x.eval env=.pure .nils/\n=0)\/(∃ k sz es,x.eval env=.pure (.slice k sz es)/\n=es.length)\/∃ i s o,x.eval env=.row i s o n))) :
  jA C S base φ H w (.val (.pure (.int .i64 n))) ((execOp a.eval o).run P w):=by
 have ha:c.args=#[X]:=by rw [<- h1]
 have hb:c.argTypes=#[t]:=by rw [<- h2]
 have hv:=zG hE hx
 refine zU (v:=.int .i64 n) ?_ (.pure _ _ (.int _ _))
 rcases h with ⟨hu,s,e1,rfl⟩|⟨⟨e,hu⟩,⟨e1,rfl⟩|⟨k,sz,es,e1,rfl⟩|⟨i,s,off,e1⟩⟩
 .rw [e1] at hv;simp [execOp,aj,resolve,hc,invoke,builtin,Builtin.len_,ha,hb,zh hu,goInt,hv.jv]
 .rw [e1] at hv;simp [execOp,aj,resolve,hc,invoke,builtin,Builtin.len_,ha,hb,zh hu,goInt,hv.aA.jw]
 .rw [e1] at hv;obtain ⟨b',o',cap,val,qx,_⟩:=hv.aA.j6;simp [execOp,aj,resolve,hc,invoke,builtin,Builtin.len_,ha,hb,zh hu,goInt,qx]
 .rw [e1] at hv;obtain ⟨b',n',cap,_,qx,_⟩:=hv.iY;simp [execOp,aj,resolve,hc,invoke,builtin,Builtin.len_,ha,hb,zh hu,goInt,qx]
theorem zhn (mx:Bool) {k:IntKind}:∀ {vs:List AV} {us:List Value} {x n:Int},aC I φ w vs us->Gx mx k x vs=some n ->
  (us.foldlM (if mx then Builtin.max2 else Builtin.min2) (.int k x)).run P w=.ok (.int k n) w
 | [],us,x,n,hr,h=>by
  rw [hr.nk];simp [Gx] at h;subst h;simp
 | v::vs,us,x,n,hr,h=>by
  obtain ⟨u,us',rfl,h1,h2⟩:=hr.cons_inv;unfold Gx at h
  split at h
  .rename_i heq;cases heq
  .rename_i a k' b rest heq;simp at heq;obtain ⟨rfl,rfl⟩:=heq;have hu:=h1.bF;subst hu;have ih:=zhn mx h2 h;simp only [List.foldlM_cons,Sem.run_bind]
   cases mx
   .simp only [Bool.false_eq_true,if_false,Builtin.min2,Sem.run_pure,Result.andThen_ok] at ih ⊢;exact ih
   .simp only [if_true,Builtin.max2,Sem.run_pure,Result.andThen_ok] at ih ⊢;exact ih
  .simp at h
theorem ziz (hE:bq (aW S base φ H w) φ w env a) {c:Call} {xs:List aa} {mx:Bool} {k:IntKind} {p n:Int} {rest:List AV} (hx:yG c.args.toList=some xs) (aj:o.op=.call c)
  (hc:c.callee=.builtin (if mx then .max else .min)) (h1:(xs.map fun x=>x.eval env)=.pure (.int k p)::rest) (h2:Gx mx k p rest=some n) :
  jA C S base φ H w (.val (.pure (.int k n))) ((execOp a.eval o).run P w):=by
 have hr:=RO hE hx;rw [h1] at hr;obtain ⟨u,us,e1,e2,e3⟩:=hr.cons_inv;have hu:=e2.bF;subst hu;have bP:=zhn (P:=P) mx e3 h2;have VQ:(c.args.map a.eval).toList=.int k p::us:=by rw [Array.toList_map,e1]
 refine zU (v:=.int k n) ?_ (.pure _ _ (.int _ _))
 cases mx
 .simp only [Bool.false_eq_true,if_false] at hc bP;simp only [execOp,aj,resolve,hc,invoke,builtin,Builtin.min_,VQ,Sem.run_bind,Sem.run_pure,Result.andThen_ok,bP]
 .simp only [if_true] at hc bP;simp only [execOp,aj,resolve,hc,invoke,builtin,Builtin.max_,VQ,Sem.run_bind,Sem.run_pure,Result.andThen_ok,bP]
theorem zfQ (hE:bq (aW S base φ H w) φ w env a) {X:Operand} {x:aa} {t:TypeId} {i s:Nat} {fs:Array Field} {f:Field} {av:AV} (hx:zD X=some x) (ht:P.underlying t=some (.struct fs)) (hf:fs[i]?=some f)
  (hs:iU P f.type=some s) (h0:s≠0) (aj:o.op=.fieldAddr t X i)
  (h:(∃ kk cs q,x.eval env=.pure (.ptr kk cs q)/\av=.pure (.ptr kk cs (q+f.offset)))\/∃ id q,x.eval env=.box id q/\av=.box id (q+f.offset)) :
  jA C S base φ H w (.val av) ((execOp a.eval o).run P w):=by
 have hv:=zG hE hx;have bP:∀ b q,a.eval X=.pointer (some ⟨b,q,none⟩)->(execOp a.eval o).run P w=.ok (.value (.pointer (some ⟨b,q+f.offset,none⟩))) w:=by
  intro b q hX;simp only [execOp,aj,Instr.fieldAt,hX,Instr.sureAddr,fieldPlace,Sem.run_bind,zh ht,Result.andThen_ok,hf,Sem.run_pure,zV hs];rw [if_neg h0];simp [Eb]
 rcases h with ⟨kk,cs,q,e1,rfl⟩|⟨id,q,e1,rfl⟩
 .rw [e1] at hv;obtain ⟨b,o',val,e2,e3,e4⟩:=hv.aA.xA
  refine zU (bP _ _ e2) (.pure _ _ (.ptr kk cs (q+f.offset) b o' _ val (by omega) e3 e4))
 .rw [e1] at hv;obtain ⟨b,n,e2,e3⟩:=hv.l7;exact zU (bP _ _ e3) (.box id _ b n e2)
theorem aC.sub {cs:List AV} {vs:Array Value} (h:aC I φ w cs vs.toList) (off s:Nat):aC I φ w ((cs.drop off).take s) (vs.extract off (off+s)).toList:=by
 have:=(h.drop off).take s
 simpa [List.extract_eq_take_drop] using this
theorem zl8 {t:TypeId} {g:Bool} {s off:Nat} {cs:List AV} {vs:Array Value} {av:AV} (hg:mF P t=some g) (hs:iU P t=some s) (h1:g=false->s=1) (hr:aC I φ w cs vs.toList)
  (hle:off+s<=cs.length) (ho:rM g ((cs.drop off).take s)=some av):∃ v,(part t vs off).run P w=.ok v w/\aG I φ w av v:=by
 have Yg:=hr.sub off s;have hlen:cs.length=vs.size:=by have:=hr.1;simpa using this
 simp only [part,Sem.run_bind,X4 hg,Result.andThen_ok]
 cases g with
 | true =>
  simp only [if_true,Sem.run_bind,zV hs,Result.andThen_ok,Sem.run_pure]
  refine ⟨_,rfl,?_⟩
  have:=Ya Yg ho;simp only [if_true,Array.toArray_toList] at this;exact this
 | false =>
  have tO:=h1 rfl;subst tO;have aO:off < vs.size:=by omega
  refine ⟨vs[off],by simp [Array.getElem?_eq_getElem aO],?_⟩
  have hc:cs[off]?=some (cs[off]'(by omega)):=List.getElem?_eq_getElem (by omega);have e:(cs.drop off).take 1=[cs[off]'(by omega)]:=by
   rw [List.drop_eq_getElem_cons (by omega)];rfl
  rw [e] at ho;simp [rM] at ho;subst ho;exact hr.2 off _ _ hc (by simp [Array.getElem?_eq_getElem aO])
theorem zpM (hE:bq (aW S base φ H w) φ w env a) {X:Operand} {x:aa} {t:TypeId} {i s:Nat} {g:Bool} {fs:Array Field} {f:Field} {av:AV} (hx:zD X=some x) (ht:P.underlying t=some (.struct fs)) (hf:fs[i]?=some f)
  (hs:iU P f.type=some s) (hg:mF P f.type=some g) (h1:g=false->s=1) (aj:o.op=.field t X i) (Cc:(∃ cs,x.eval env=.agg cs)\/∃ ps,x.eval env=.pure (.agg ps))
  (hle:f.offset+s<=(x.eval env).cells.length) (ho:rM g (((x.eval env).cells.drop f.offset).take s)=some av):jA C S base φ H w (.val av) ((execOp a.eval o).run P w):=by
 have hv:=zG hE hx;have hu:x.eval env≠.undef:=by rcases Cc with ⟨cs,e⟩|⟨ps,e⟩<;>rw [e]<;>simp
 have vz:=hv.cells hu;have hX:∃ vs,a.eval X=.agg vs:=by
  rcases Cc with ⟨cs,e⟩|⟨ps,e⟩<;>rw [e] at hv
  .exact hv.nu
  .exact hv.aA.nu
 obtain ⟨vs,hX⟩:=hX;rw [hX] at vz;obtain ⟨v,e1,e2⟩:=zl8 (P:=P) hg hs h1 vz hle ho
 refine zU (v:=v) ?_ e2
 simp only [execOp,aj,Instr.field,Sem.run_bind,zh ht,Result.andThen_ok,hf,hX,asAgg,Sem.run_pure];simp only [Value.cells] at e1;simp [e1]
theorem zpl (hE:bq (aW S base φ H w) φ w env a) {X Y:Operand} {x y:aa} {t el:TypeId} {len s:Nat} {g:Bool} {k:IntKind} {n:Int} {av:AV} (hx:zD X=some x) (hy:zD Y=some y) (ht:P.underlying t=some (.array len el))
  (hs:iU P el=some s) (hg:mF P el=some g) (h1:g=false->s=1) (aj:o.op=.index t X Y) (Cc:(∃ cs,x.eval env=.agg cs)\/∃ ps,x.eval env=.pure (.agg ps)) (hn:y.eval env=.pure (.int k n))
  (h0:0<=n) (aO:n < len) (hle:n.toNat*s+s<=(x.eval env).cells.length) (ho:rM g (((x.eval env).cells.drop (n.toNat*s)).take s)=some av):jA C S base φ H w (.val av) ((execOp a.eval o).run P w):=by
 have hv:=zG hE hx;have F4:=zG hE hy;rw [hn] at F4;have hu:x.eval env≠.undef:=by rcases Cc with ⟨cs,e⟩|⟨ps,e⟩<;>rw [e]<;>simp
 have vz:=hv.cells hu;have hX:∃ vs,a.eval X=.agg vs:=by
  rcases Cc with ⟨cs,e⟩|⟨ps,e⟩<;>rw [e] at hv
  .exact hv.nu
  .exact hv.aA.nu
 obtain ⟨vs,hX⟩:=hX;rw [hX] at vz;obtain ⟨v,e1,e2⟩:=zl8 (P:=P) hg hs h1 vz hle ho
 refine zU (v:=v) ?_ e2
 simp only [execOp,aj,Instr.index,F4.bF,asIntOf,Sem.run_bind,Sem.run_pure,Result.andThen_ok,zh ht,hX];rw [if_pos ⟨h0,aO⟩];simp only [Value.cells] at e1;simp only [Sem.run_bind,zV hs,Result.andThen_ok,e1,Sem.run_pure]
theorem zd2 (hE:bq (aW S base φ H w) φ w env a) {X Y:Operand} {x y:aa} {t el:TypeId} {len s:Nat} {k:IntKind} {n:Int} {av:AV} (hx:zD X=some x) (hy:zD Y=some y) (ht:P.underlying t=some (.array len el))
  (hs:iU P el=some s) (aj:o.op=.indexAddr t X Y) (hn:y.eval env=.pure (.int k n)) (h0:0<=n) (aO:n < len)
  (h:(∃ kk cs q,x.eval env=.pure (.ptr kk cs q)/\av=.pure (.ptr kk cs (q+n.toNat*s)))\/∃ id q,x.eval env=.box id q/\av=.box id (q+n.toNat*s)):jA C S base φ H w (.val av) ((execOp a.eval o).run P w):=by
 have hv:=zG hE hx;have F4:=zG hE hy;rw [hn] at F4;have bP:∀ b q,a.eval X=.pointer (some ⟨b,q,none⟩)->(execOp a.eval o).run P w=.ok (.value (.pointer (some ⟨b,q+n.toNat*s,none⟩))) w:=by
  intro b q hX;simp only [execOp,aj,Instr.indexAt,hX,Instr.sureAddr,Sem.run_bind,Sem.run_pure,Result.andThen_ok,zh ht,F4.bF,asIntOf];rw [if_pos ⟨h0,aO⟩];simp [zV hs,Eb]
 rcases h with ⟨kk,cs,q,e1,rfl⟩|⟨id,q,e1,rfl⟩
 .rw [e1] at hv;obtain ⟨b,o',val,e2,e3,e4⟩:=hv.aA.xA;exact zU (bP _ _ e2) (.pure _ _ (.ptr kk cs _ b o' _ val (by omega) e3 e4))
 .rw [e1] at hv;obtain ⟨b,m,e2,e3⟩:=hv.l7;exact zU (bP _ _ e3) (.box id _ b m e2)
theorem zem (hE:bq (aW S base φ H w) φ w env a) {X Y:Operand} {x y:aa} {t el:TypeId} {s:Nat} {k:IntKind} {n:Int} {av:AV} (hx:zD X=some x) (hy:zD Y=some y) (ht:P.underlying t=some (.slice el))
  (hs:iU P el=some s) (aj:o.op=.indexAddr t X Y) (hn:y.eval env=.pure (.int k n)) (h0:0<=n)
  (h:(∃ kk es e,x.eval env=.pure (.slice kk s es)/\es[n.toNat]?=some e/\av=.pure (.ptr kk e 0))\/∃ id q len,x.eval env=.row id s q len/\n < len/\av=.box id (q*s+n.toNat*s)):jA C S base φ H w (.val av) ((execOp a.eval o).run P w):=by
 have hv:=zG hE hx;have F4:=zG hE hy;rw [hn] at F4;have bP:∀ b q len cap,a.eval X=.slice (some ⟨b,q,none⟩) len cap->n < len->(execOp a.eval o).run P w=.ok (.value (.pointer (some ⟨b,q+n.toNat*s,none⟩))) w:=by
  intro b q len cap hX aO;simp only [execOp,aj,Instr.indexAt,hX,Sem.run_bind,Sem.run_pure,Result.andThen_ok,zh ht,F4.bF,asIntOf];rw [if_pos ⟨h0,aO⟩];simp [zV hs,Eb]
 rcases h with ⟨kk,es,NU,e1,e2,rfl⟩|⟨id,q,len,e1,aO,rfl⟩
 .rw [e1] at hv;obtain ⟨b,o',cap,val,f1,f2,f3,f4,f5⟩:=hv.aA.j6;have aO:n.toNat < es.length:=(List.getElem?_eq_some_iff.1 e2).1
  refine zU (bP _ _ _ _ f1 (by omega)) (.pure _ _ (.ptr kk NU 0 b (o'+n.toNat*s) _ (val n.toNat) rfl (fun j p hp=>?_) fun j p hp=>f5 _ _ _ _ e2 hp))
  obtain ⟨g1,g2⟩:=f4 _ _ _ _ e2 hp;exact ⟨g1,g2⟩
 .rw [e1] at hv;obtain ⟨b,m,cap,f1,f2,f3,f4⟩:=hv.iY;exact zU (bP _ _ _ _ f2 aO) (.box id _ b m f1)
theorem Ql (hE:bq I φ w env a) {n d r:Nat} {X:Operand} {x:aa} {code:BoundsCode} (hx:zD X=some x) (h:bound env n d (some x)=some r) :
  (Instr.sliceBound (a.eval X) n code).run P w=.ok r w/\r<=n:=by
 have hv:=zG hE hx;unfold bound at h;simp only at h
 split at h
 .rename_i k i e1;rw [e1] at hv;unfold Bq at h
  split at h
  .rename_i hc;simp at h;subst h
   refine ⟨?_,by omega⟩
   simp only [Instr.sliceBound,hv.bF,asIntOf,Sem.run_bind,Sem.run_pure,Result.andThen_ok];rw [if_pos hc];rfl
  .simp at h
 .simp at h
theorem VV (hE:bq I φ w env a) {isS:Bool} {len N cap l h:Nat} {lo hi:Option Operand} {lo' bR:Option aa} (jo:wR lo=some lo') (tQ:wR hi=some bR) (hc:N<=cap) (hln:len<=N)
  (h1:bound env N len bR=some h) (h2:bound env h 0 lo'=some l) :
  (Instr.sliceBounds isS len cap (lo.map a.eval) (hi.map a.eval) none).run P w=.ok (l,h,cap) w/\l<=h/\h<=N:=by
 have e1:h<=N/\((hi=none/\h=len)\/∃ X,hi=some X/\∀ code,(Instr.sliceBound (a.eval X) cap code).run P w=.ok h w):=by
  cases hi with
  | none =>
   simp [wR] at tQ;subst tQ;simp [bound] at h1;subst h1;exact ⟨hln,.inl ⟨rfl,rfl⟩⟩
  | some X =>
   simp only [wR] at tQ
   cases hX:zD X with
   | none=>simp [hX] at tQ
   | some x =>
    simp [hX] at tQ;subst tQ
    -- within the length,so within the capacity
    unfold bound at h1;simp only at h1
    split at h1
    .rename_i k i e;unfold Bq at h1
     split at h1
     .rename_i tV;simp at h1;subst h1
      refine ⟨by omega,.inr ⟨X,rfl,fun code=>?_⟩⟩
      exact (Ql (P:=P) (code:=code) (n:=cap) (d:=len) (r:=i.toNat) hE hX (by simp only [bound,e,Bq];rw [if_pos ⟨tV.1,by omega⟩])).1
     .simp at h1
    .simp at h1
 have e2:l<=h/\((lo=none/\l=0)\/∃ X,lo=some X/\∀ code,(Instr.sliceBound (a.eval X) h code).run P w=.ok l w):=by
  cases lo with
  | none =>
   simp [wR] at jo;subst jo;simp [bound] at h2;subst h2;exact ⟨Nat.zero_le _,.inl ⟨rfl,rfl⟩⟩
  | some X =>
   simp only [wR] at jo
   cases hX:zD X with
   | none=>simp [hX] at jo
   | some x =>
    simp [hX] at jo;subst jo
    refine ⟨(Ql (P:=P) (code:=.index) hE hX h2).2,.inr ⟨X,rfl,fun code=>(Ql (P:=P) hE hX h2).1⟩⟩
 refine ⟨?_,e2.1,e1.1⟩
 rcases e1.2 with ⟨rfl,rfl⟩|⟨X,rfl,r1⟩<;>rcases e2.2 with ⟨rfl,rfl⟩|⟨Y,rfl,r2⟩
 .simp [Instr.sliceBounds]
 .simp [Instr.sliceBounds,r2]
 .simp [Instr.sliceBounds,r1]
 .simp [Instr.sliceBounds,r1,r2]
theorem Qm {t el:TypeId} (ht:P.underlying t=some (.slice el)) (x:Value) (lo hi mx:Option Value):(Instr.sliceAt t x lo hi mx).run P w=(Instr.slice t x lo hi mx).run P w:=by
 simp [Instr.sliceAt,zh ht]
theorem zlK {t:TypeId} (ht:P.underlying t=some .string) (x:Value) (lo hi mx:Option Value):(Instr.sliceAt t x lo hi mx).run P w=(Instr.slice t x lo hi mx).run P w:=by
 simp [Instr.sliceAt,zh ht]
theorem znv (hE:bq (aW S base φ H w) φ w env a) {X:Operand} {x:aa} {t:TypeId} {lo hi:Option Operand} {lo' bR:Option aa} {s:ByteArray} {l h:Nat} (hx:zD X=some x) (ht:P.underlying t=some .string) (jo:wR lo=some lo') (tQ:wR hi=some bR)
  (aj:o.op=.slice t X lo hi none) (hv:x.eval env=.pure (.str s)) (h1:bound env s.size s.size bR=some h) (h2:bound env h 0 lo'=some l) :
  jA C S base φ H w (.val (.pure (.str (s.extract l h)))) ((execOp a.eval o).run P w):=by
 have hX:=zG hE hx;rw [hv] at hX;obtain ⟨b1,b2,b3⟩:=VV (P:=P) (isS:=false) hE jo tQ (Nat.le_refl s.size) (Nat.le_refl _) h1 h2
 refine zU (v:=.string (s.extract l h)) ?_ (.pure _ _ (.str _))
 simp only [execOp,aj,Sem.run_bind,Option.map_none,zlK ht,Instr.slice,zh ht,Result.andThen_ok,hX.jv,Option.isSome_none,Bool.false_eq_true,if_false,b1,Sem.run_pure]
theorem zjl (hE:bq (aW S base φ H w) φ w env a) {X:Operand} {x:aa} {t el:TypeId} {sz:Nat} {lo hi:Option Operand} {lo' bR:Option aa} {l h:Nat} (hx:zD X=some x) (ht:P.underlying t=some (.slice el)) (hs:iU P el=some sz) (jo:wR lo=some lo') (tQ:wR hi=some bR)
  (aj:o.op=.slice t X lo hi none) (hv:x.eval env=.pure .nils) (h1:bound env 0 0 bR=some h) (h2:bound env 0 0 lo'=some l) :
  jA C S base φ H w (.val (.pure .nils)) ((execOp a.eval o).run P w):=by
 have hX:=zG hE hx;rw [hv] at hX;have hh:h=0:=by
  unfold bound at h1
  split at h1
  .simpa using h1.symm
  .split at h1
   .unfold Bq at h1
    split at h1
    .simp at h1;omega
    .simp at h1
   .simp at h1
 subst hh;obtain ⟨b1,b2,b3⟩:=VV (P:=P) (isS:=true) hE jo tQ (Nat.le_refl 0) (Nat.le_refl _) h1 h2;have hl:l=0:=by omega
 subst hl
 refine zU (v:=.slice none 0 0) ?_ (.pure _ _ .nils)
 simp only [execOp,aj,Sem.run_bind,Option.map_none,Qm ht,Instr.slice,zh ht,Result.andThen_ok,hX.aA.jw,b1,zV hs,Sem.run_pure];rfl
theorem zis (hE:bq (aW S base φ H w) φ w env a) {X:Operand} {x:aa} {t el:TypeId} {sz:Nat} {lo hi:Option Operand} {lo' bR:Option aa} {l h:Nat} {es:List (List PV)} (hx:zD X=some x) (ht:P.underlying t=some (.slice el)) (hs:iU P el=some sz) (jo:wR lo=some lo') (tQ:wR hi=some bR)
  (aj:o.op=.slice t X lo hi none) {kk:Bool} (hv:x.eval env=.pure (.slice kk sz es)) (h1:bound env es.length es.length bR=some h) (h2:bound env h 0 lo'=some l) :
  jA C S base φ H w (.val (.pure (.slice kk sz ((es.take h).drop l)))) ((execOp a.eval o).run P w):=by
 have hX:=zG hE hx;rw [hv] at hX;obtain ⟨b,q,cap,val,f1,f2,f3,f4,f5⟩:=hX.aA.j6;obtain ⟨b1,b2,b3⟩:=VV (P:=P) (isS:=true) hE jo tQ f2 (Nat.le_refl _) h1 h2;have bf:∀ (i:Nat) e,((es.take h).drop l)[i]?=some e->es[l+i]?=some e:=fun i e he=>by
  rw [List.getElem?_drop] at he;have:l+i < h:=by have:=(List.getElem?_eq_some_iff.1 he).1;simp at this;omega
  rwa [List.getElem?_take_of_lt this] at he
 by_cases hm:cap=l
 .have Ce:(es.take h).drop l=[]:=by rw [List.drop_eq_nil_iff];simp;omega
  refine zU (v:=.slice (some ⟨b,q,none⟩) (h - l) (cap - l)) ?_ (.pure _ _ (.slice kk sz _ b q _ _ val (by simp;omega) (by omega) (fun i e he=>by rw [Ce] at he;simp at he) (fun i e j p he=>by rw [Ce] at he;simp at he) (fun i e j p he=>by rw [Ce] at he;simp at he)))
  simp only [execOp,aj,Sem.run_bind,Option.map_none,Qm ht,Instr.slice,zh ht,Result.andThen_ok,f1,b1,zV hs,Sem.run_pure];rw [if_pos hm]
 .refine zU (v:=.slice (some ⟨b,q+l*sz,none⟩) (h - l) (cap - l)) ?_ (.pure _ _ (.slice kk sz _ b (q+l*sz) _ _ (fun i=>val (l+i)) (by simp;omega) (by omega) (fun i e he=>f3 _ _ (bf i e he)) (fun i e j p he hp=>?_) (fun i e j p he hp=>f5 _ _ _ _ (bf i e he) hp)))
  .simp only [execOp,aj,Sem.run_bind,Option.map_none,Qm ht,Instr.slice,zh ht,Result.andThen_ok,f1,b1,zV hs,Sem.run_pure];rw [if_neg hm];simp [Eb]
  .obtain ⟨g1,g2⟩:=f4 _ _ _ _ (bf i e he) hp
   refine ⟨g1,?_⟩
   rw [<- g2]
   congr 2
   rw [Nat.add_mul];omega
theorem zjr (hH:aS C S base φ H w) (hE:bq (aW S base φ H w) φ w env a) {X:Operand} {x:aa} {t el:TypeId} {sz id off len:Nat} {lo hi:Option Operand} {lo' bR:Option aa} {l h:Nat} (hx:zD X=some x) (ht:P.underlying t=some (.slice el)) (hs:iU P el=some sz) (jo:wR lo=some lo') (tQ:wR hi=some bR)
  (aj:o.op=.slice t X lo hi none) (hv:x.eval env=.row id sz off len) {N:Nat} (hN:Lu H id sz off len=some N) (h1:bound env N len bR=some h) (h2:bound env h 0 lo'=some l) :
  jA C S base φ H w (.val (if l≠0/\h=l then .pure (.slice false sz []) else .row id sz (off+l) (h - l))) ((execOp a.eval o).run P w):=by
 have hX:=zG hE hx;rw [hv] at hX;obtain ⟨b,n,cap,f1,f2,f3,f4⟩:=hX.iY;have hNc:len<=N/\N<=cap:=by
  unfold Lu at hN
  split at hN
  .rename_i own cs hg;have ho:=hH.obj _ _ _ f1;rw [hg] at ho;obtain ⟨c,e,fz,-,vz,hle,-⟩:=ho;simp only [Option.some.injEq] at hN
   refine ⟨by omega,?_⟩
   have h2:cs.length / sz<=off+cap:=by
    rcases Nat.eq_zero_or_pos sz with h0|h0
    .subst h0;simp
    .exact Nat.div_le_of_le_mul (by rw [Nat.mul_comm,f4];exact hle)
   omega
  .simp at hN
 obtain ⟨b1,b2,b3⟩:=VV (P:=P) (isS:=true) hE jo tQ hNc.2 hNc.1 h1 h2
 by_cases hm:cap=l
 .have bP:(execOp a.eval o).run P w=.ok (.value (.slice (some ⟨b,off*sz,none⟩) (h - l) (cap - l))) w:=by
   simp only [execOp,aj,Sem.run_bind,Option.map_none,Qm ht,Instr.slice,zh ht,Result.andThen_ok,f2,b1,zV hs,Sem.run_pure];rw [if_pos hm]
  by_cases h0:l≠0/\h=l
  .rw [if_pos h0]
   refine zU bP (.pure _ _ (.slice false sz [] b _ _ _ (fun _ _=>undef) (by simp;omega) (by omega) (fun i e he=>by simp at he) (fun i e j p he=>by simp at he) (fun i e j p he=>by simp at he)))
  .have Cb:l=0:=by omega
   subst Cb;rw [if_neg (by simp)];exact zU bP (.row id sz _ _ b n _ _ f1 (by simp) (by omega) (by simpa using f4))
 .have bP:(execOp a.eval o).run P w=.ok (.value (.slice (some ⟨b,(off+l)*sz,none⟩) (h - l) (cap - l))) w:=by
   simp only [execOp,aj,Sem.run_bind,Option.map_none,Qm ht,Instr.slice,zh ht,Result.andThen_ok,f2,b1,zV hs,Sem.run_pure];rw [if_neg hm];simp [Eb,Nat.add_mul]
  by_cases h0:l≠0/\h=l
  .rw [if_pos h0]
   refine zU bP (.pure _ _ (.slice false sz [] b _ _ _ (fun _ _=>undef) (by simp;omega) (by omega) (fun i e he=>by simp at he) (fun i e j p he=>by simp at he) (fun i e j p he=>by simp at he)))
  .rw [if_neg h0]
   refine zU bP (.row id sz _ _ b n _ _ f1 rfl (by omega) ?_)
   have:off+l+(cap - l)=off+cap:=by omega
   rw [this];exact f4
theorem zk3 {av:AV} {v:Value} {len:Nat} (hv:aG I φ w av v) (h:Qa av=some len):∃ a cap,v=.slice a len cap/\len<=cap:=by
 unfold Qa at h
 split at h
 .simp at h;subst h;exact ⟨none,0,hv.aA.jw,Nat.le_refl _⟩
 .simp at h;subst h;obtain ⟨b,o,cap,val,h1,h2,-⟩:=hv.aA.j6;exact ⟨_,cap,h1,h2⟩
 .simp at h;subst h;obtain ⟨b,n,cap,-,h1,h2,-⟩:=hv.iY;exact ⟨_,cap,h1,h2⟩
 .simp at h
theorem zng (hE:bq (aW S base φ H w) φ w env a) {X Y Z:Operand} {x y z:aa} {t el:TypeId} {sz len:Nat} {lo:Option Operand} {lo':Option aa} {l h m:Nat} (hx:zD X=some x) (hy:zD Y=some y) (hz:zD Z=some z) (ht:P.underlying t=some (.slice el)) (hs:iU P el=some sz) (jo:wR lo=some lo')
  (aj:o.op=.slice t X lo (some Y) (some Z)) (hv:Qa (x.eval env)=some len) (h0:bound env len len (some z)=some m) (h1:bound env m m (some y)=some h) (h2:bound env h 0 lo'=some l) :
  jA C S base φ H w (.val (Gy sz lo' h m (x.eval env))) ((execOp a.eval o).run P w):=by
 have hxr:=zG hE hx;obtain ⟨ad,cap,e1,hc⟩:=zk3 hxr hv;have hZ:∀ code,(Instr.sliceBound (a.eval Z) cap code).run P w=.ok m w:=fun code=>by
  unfold bound at h0;simp only at h0
  split at h0
  .rename_i k i e;unfold Bq at h0
   split at h0
   .rename_i tV;simp at h0;subst h0;exact (Ql (P:=P) (code:=code) (n:=cap) (d:=len) (r:=i.toNat) hE hz (by simp only [bound,e,Bq];rw [if_pos ⟨tV.1,by omega⟩])).1
   .simp at h0
  .simp at h0
 have hY:∀ code,(Instr.sliceBound (a.eval Y) m code).run P w=.ok h w:=fun code=>(Ql (P:=P) hE hy h1).1;have e2:(lo=none/\l=0)\/∃ W,lo=some W/\∀ code,(Instr.sliceBound (a.eval W) h code).run P w=.ok l w:=by
  cases lo with
  | none =>
   simp [wR] at jo;subst jo;simp [bound] at h2;subst h2;exact .inl ⟨rfl,rfl⟩
  | some W =>
   simp only [wR] at jo
   cases hX:zD W with
   | none=>simp [hX] at jo
   | some x =>
    simp [hX] at jo;subst jo;exact .inr ⟨W,rfl,fun code=>(Ql (P:=P) hE hX h2).1⟩
 have hb:(Instr.sliceBounds true len cap (lo.map a.eval) (some (a.eval Y)) (some (a.eval Z))).run P w=.ok (l,h,m) w:=by
  rcases e2 with ⟨rfl,rfl⟩|⟨W,rfl,r2⟩
  .simp [Instr.sliceBounds,hZ,hY]
  .simp [Instr.sliceBounds,hZ,hY,r2]
 refine zU (v:=.slice (if m=l then ad else ad.map (·.add (l*sz))) (h - l) (m - l)) ?_ ?_
 case refine_2 =>
  generalize x.eval env=X0 at *;unfold Gy
  split
  .rename_i id s off len'
   split
   .rename_i tV;obtain ⟨rfl,rfl,Yh⟩:=tV;have Cb:l=0:=by
     cases lo' with
     | none=>simp [bound] at h2;exact h2.symm
     | some _=>simp at Yh
    subst Cb;obtain ⟨b,n,cap',au,hX,_,_⟩:=hxr.iY;rw [e1] at hX;simp at hX;obtain ⟨rfl,rfl,rfl⟩:=hX;have e9:(if h=0 then some (⟨b,off*s,none⟩:Addr) else (some (⟨b,off*s,none⟩:Addr)).map (·.add (0*s)))=some ⟨b,off*s,none⟩:=by
     split
     .rfl
     .simp [Addr.add]
    rw [e9,Nat.sub_zero];exact .lS id s off h b n _ au rfl
   .exact .undef _
  .exact .undef _
 simp only [execOp,aj,Sem.run_bind,Option.map_some,Qm ht,Instr.slice,zh ht,Result.andThen_ok,e1,hb,zV hs,Sem.run_pure]
theorem zth (hE:bq (aW S base φ H w) φ w env a) {X:Operand} {x:aa} {t e:TypeId} {c:Call} (hx:zD X=some x) (hu:P.underlying t=some (.slice e)) (aj:o.op=.call c) (hc:c.callee=.builtin .cap)
  (h1:c.args.toList=[X]) (h2:c.argTypes.toList=[t]) (e1:x.eval env=.pure .nils) :
  jA C S base φ H w (.val (.pure (.int .i64 0))) ((execOp a.eval o).run P w):=by
 have ha:c.args=#[X]:=by rw [<- h1]
 have hb:c.argTypes=#[t]:=by rw [<- h2]
 have hv:=zG hE hx;rw [e1] at hv
 refine zU (v:=.int .i64 0) ?_ (.pure _ _ (.int _ _))
 simp [execOp,aj,resolve,hc,invoke,builtin,Builtin.cap_,ha,hb,zh hu,goInt,hv.aA.jw]
end
end Go.Proofs.YtmmhnfghklppiaaGreat.Vm

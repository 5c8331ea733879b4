/- Each operation of the machine does what the model's operation does: numbers, slices, fields, elements. Each operation of the machine does what the model's operation does: conversions, closures, slices, fields, elements. -/
import Derived.Test.YtleggocccaeemaaOk4
import Derived.IntWalk
namespace Go.Proofs.Ytleggocccaeemaa.Vm
open Go Go.RowKit
set_option linter.unusedVariables false
set_option linter.unusedSimpArgs false
section
variable {C:Comp} {P:Program} {S:Bool->Nat->Prop} {base:Nat} {φ:Phi} {H:Heap} {w:World} {env:Env} {a:Act} {e:Eff} {o:Oper} {I:Bool->Nat->Prop}
theorem Rep.slice_inv {k:Bool} {sz:Nat} {es:List (List PV)} {v:Value} (h:Rep I w (.slice k sz es) v):∃ (b o cap:Nat) (val:Nat->Nat->Value),v=.slice (some ⟨b,o,none⟩) es.length cap/\es.length<=cap /\
  (∀ (i:Nat) e,es[i]?=some e->e.length=sz)/\(∀ (i:Nat) e (j:Nat) p,es[i]?=some e->e[j]?=some p->I k b/\w.cell? ⟨b,o+i*sz+j,none⟩=some (val i j)) /\
  (∀ (i:Nat) e (j:Nat) p,es[i]?=some e->e[j]?=some p->Rep I w p (val i j)):=by
 cases h with
 | slice _ _ _ b o len cap val hlen hc hz hm h=>subst hlen;exact ⟨b,o,cap,val,rfl,hc,hz,hm,h⟩
theorem Rep.ptr_inv {k:Bool} {cs:List PV} {off:Nat} {v:Value} (h:Rep I w (.ptr k cs off) v):∃ (b o:Nat) (val:Nat->Value),v=.pointer (some ⟨b,o+off,none⟩) /\
  (∀ (j:Nat) p,cs[j]?=some p->I k b/\w.cell? ⟨b,o+j,none⟩=some (val j))/\(∀ (j:Nat) p,cs[j]?=some p->Rep I w p (val j)):=by
 cases h with
 | ptr _ _ _ b o o' val ho hm h=>subst ho;exact ⟨b,o,val,rfl,hm,h⟩
theorem zcE {d:EqK} {x:AV} {v:Value} (h:VRel I φ w x v) {b:Bool} (hn:isNil d x=some b) :
  (d=.slice/\∃ ad n c,v=.slice ad n c/\ad.isNone=b)\/(d=.pointer/\∃ ad,v=.pointer ad/\ad.isNone=b) \/
  (d=.func/\((b=true/\v=.nilFunc)\/(b=false/\∃ f vs,v=.func (.func f) #[] vs))):=by
 unfold isNil at hn
 split at hn
 ·have:=h.pure_inv.nils_inv;subst this;cases d<;>simp at hn;subst hn;exact .inl ⟨rfl,none,0,0,rfl,rfl⟩
 ·have:=h.pure_inv.nilp_inv;subst this;cases d<;>simp at hn;subst hn;exact .inr (.inl ⟨rfl,none,rfl,rfl⟩)
 ·have:=h.pure_inv.nilf_inv;subst this;cases d<;>simp at hn;subst hn;exact .inr (.inr ⟨rfl,.inl ⟨rfl,rfl⟩⟩)
 ·obtain ⟨b',o,cap,val,rfl,_⟩:=h.pure_inv.slice_inv;cases d<;>simp at hn;subst hn;exact .inl ⟨rfl,_,_,_,rfl,rfl⟩
 ·obtain ⟨b',n,cap,_,rfl,_⟩:=h.row_inv;cases d<;>simp at hn;subst hn;exact .inl ⟨rfl,_,_,_,rfl,rfl⟩
 ·obtain ⟨b',o,val,rfl,_⟩:=h.pure_inv.ptr_inv;cases d<;>simp at hn;subst hn;exact .inr (.inl ⟨rfl,_,rfl,rfl⟩)
 ·obtain ⟨b',n,_,rfl⟩:=h.box_inv;cases d<;>simp at hn;subst hn;exact .inr (.inl ⟨rfl,_,rfl,rfl⟩)
 ·obtain ⟨vs,rfl,_⟩:=h.pure_inv.func_inv;cases d<;>simp at hn;subst hn;exact .inr (.inr ⟨rfl,.inr ⟨rfl,_,_,rfl⟩⟩)
 ·obtain ⟨vs,rfl,_⟩:=h.func_inv;cases d<;>simp at hn;subst hn;exact .inr (.inr ⟨rfl,.inr ⟨rfl,_,_,rfl⟩⟩)
 ·simp at hn
theorem zeO (hE:ERel (Imm S base φ H w) φ w env a) {X:Operand} {x:Opnd} (hx:zu X=some x) (hop:o.op=.nilCheck X)
  (hn:isNil .pointer (x.eval env)=some false\/isNil .func (x.eval env)=some false):Ran C S base φ H w (.val (x.eval env)) ((execOp a.eval o).run P w):=by
 have h:=zw hE hx
 refine zN (v:=a.eval X) ?_ h
 rcases hn with hn|hn
 ·rcases zcE h hn with ⟨h0,_⟩|⟨_,ad,hv,hb⟩|⟨h0,_⟩
  ·cases h0
  ·cases ad with
   | none=>simp at hb
   | some ad=>simp [execOp,hop,hv]
  ·cases h0
 ·rcases zcE h hn with ⟨h0,_⟩|⟨h0,_⟩|⟨_,⟨h0,_⟩|⟨_,f,vs,hv⟩⟩
  ·cases h0
  ·cases h0
  ·cases h0
  ·simp [execOp,hop,hv]
theorem zkH {op:BinOp} {k:IntKind} {x y:Int} {t:TypeId} {p:PV} (hop:¬ (op=.shl\/op=.shr)) (h:zbG op k x y=some p) :
  ∃ v,(binOp op t (.int k x) (.int k y)).run P w=.ok v w/\Rep I w p v:=by
 have h1:op≠.shl:=fun e=>hop (.inl e);have h2:op≠.shr:=fun e=>hop (.inr e);unfold zbG at h
 split at h
 ·simp at h;subst h;exact ⟨_,by simp [binOp,Op.intArith],.int _ _⟩
 ·simp at h;subst h;exact ⟨_,by simp [binOp,Op.intArith],.int _ _⟩
 ·simp at h;subst h;exact ⟨_,by simp [binOp,Op.intArith],.int _ _⟩
 ·split at h
  ·simp at h
  ·rename_i h0;simp at h;subst h;exact ⟨_,by simp [binOp,Op.intDiv,h0],.int _ _⟩
 ·split at h
  ·simp at h
  ·rename_i h0;simp at h;subst h;exact ⟨_,by simp [binOp,Op.intDiv,h0],.int _ _⟩
 ·simp at h;subst h;exact ⟨_,by simp [binOp,Op.intBits],.int _ _⟩
 ·simp at h;subst h;exact ⟨_,by simp [binOp,Op.intBits],.int _ _⟩
 ·simp at h;subst h;exact ⟨_,by simp [binOp,Op.intBits],.int _ _⟩
 ·simp at h;subst h;exact ⟨_,by simp [binOp,Op.intBits],.int _ _⟩
 ·unfold zcW at h
  split at h<;>simp at h<;>subst h<;>exact ⟨_,by simp [binOp,Op.intCmp],.bool _⟩
theorem ziZ {op:BinOp} {k k':IntKind} {x y:Int} {t:TypeId} {p:PV} (h:ze5 op k x y=some p) :
  ∃ v,(binOp op t (.int k x) (.int k' y)).run P w=.ok v w/\Rep I w p v:=by
 unfold ze5 at h
 split at h
 ·simp at h
 ·rename_i h0
  split at h
  ·simp at h;subst h;exact ⟨_,by simp [binOp,Op.shift,h0],.int _ _⟩
  ·simp at h;subst h;exact ⟨_,by simp [binOp,Op.shift,h0],.int _ _⟩
  ·simp at h
theorem zkE {op:BinOp} {x y:ByteArray} {t:TypeId} {p:PV} (h:ziu op x y=some p) :
  ∃ v,(binOp op t (.string x) (.string y)).run P w=.ok v w/\Rep I w p v:=by
 unfold ziu at h
 split at h
 ·simp at h;subst h;exact ⟨_,by simp [binOp,Op.stringOp],.bool _⟩
 ·simp at h;subst h;exact ⟨_,by simp [binOp,Op.stringOp],.bool _⟩
 ·simp at h;subst h;exact ⟨_,by simp [binOp,Op.stringOp],.bool _⟩
 ·split at h
  ·rename_i h0;simp at h;subst h
   refine ⟨.string (x++y),?_,.str _⟩
   simp only [binOp,Op.stringOp];rw [if_neg]
   ·rfl
   ·simp [IntKind.max,IntKind.signed,IntKind.bits];omega
  ·simp at h
 ·simp at h
def kOf (P:Program) (t:TypeId):EqK->Prop
 | .num=>(∃ k,P.underlying t=some (.int k))\/P.underlying t=some .string
 | .bool=>P.underlying t=some .bool
 | .slice=>∃ e,P.underlying t=some (.slice e)
 | .pointer=>∃ e,P.underlying t=some (.pointer e)
 | .func=>∃ x y z,P.underlying t=some (.func x y z)
theorem zcV {t:TypeId} {x y:Value} {b:Bool} (h:∀ d,(Op.equalIn (d+1) t x y).run P w=.ok b w):(Op.equal t x y).run P w=.ok b w:=by
 have:=h 9999
 simpa [Op.equal,Op.maxDepth] using this
theorem zlO {d:EqK} {t:TypeId} {x y:AV} {v u:Value} (hk:kOf P t d) (hx:VRel I φ w x v) (hy:VRel I φ w y u) {b:Bool} (h:eqB d x y=some b) :
  (Op.equal t v u).run P w=.ok b w/\(∀ c1 c2,¬ (v=.agg c1/\u=.agg c2))/\(v=.nilIface->False)/\(∀ k n,v≠.int k n)/\(∀ k n,u≠.int k n)/\(∀ s s',¬ (v=.string s/\u=.string s')) /\
  (∀ k n,v≠.float k n)/\(∀ k n m,v≠.complex k n m):=by
 unfold eqB at h;have both:∀ b1 b2,isNil d x=some b1->isNil d y=some b2->(b1=true\/b2=true)->b=(b1&&b2) ->
   (Op.equal t v u).run P w=.ok b w/\(∀ c1 c2,¬ (v=.agg c1/\u=.agg c2))/\(v=.nilIface->False)/\(∀ k n,v≠.int k n)/\(∀ k n,u≠.int k n)/\(∀ s s',¬ (v=.string s/\u=.string s')) /\
  (∀ k n,v≠.float k n)/\(∀ k n m,v≠.complex k n m):=by
  intro b1 b2 h1 h2 hor hb;rcases zcE hx h1 with ⟨e,ad,n,c,rfl,ha⟩|⟨e,ad,rfl,ha⟩|⟨e,hf⟩
  ·subst e;rcases zcE hy h2 with ⟨_,ad',n',c',rfl,ha'⟩|⟨e,_⟩|⟨e,_⟩
   ·obtain ⟨el,hu⟩:=hk
    refine ⟨zcV fun d=>?_,by simp,by simp,by simp,by simp,by simp,by simp,by simp⟩
    simp only [Op.equalIn,Sem.run_bind,ze hu,Result.andThen_ok]
    cases ad<;>cases ad'<;>simp at ha ha'<;>subst ha<;>subst ha'<;>simp at hor<;>simp [hb]
   ·cases e
   ·cases e
  ·subst e;rcases zcE hy h2 with ⟨e,_⟩|⟨_,ad',rfl,ha'⟩|⟨e,_⟩
   ·cases e
   ·obtain ⟨el,hu⟩:=hk
    refine ⟨zcV fun d=>?_,by simp,by simp,by simp,by simp,by simp,by simp,by simp⟩
    simp only [Op.equalIn,Sem.run_bind,ze hu,Result.andThen_ok]
    cases ad<;>cases ad'<;>simp at ha ha'<;>subst ha<;>subst ha'<;>simp at hor<;>simp [hb]
   ·cases e
  ·subst e;rcases zcE hy h2 with ⟨e,_⟩|⟨e,_⟩|⟨_,hf'⟩
   ·cases e
   ·cases e
   ·obtain ⟨x1,x2,x3,hu⟩:=hk;rcases hf with ⟨rfl,rfl⟩|⟨rfl,f,vs,rfl⟩<;>rcases hf' with ⟨rfl,rfl⟩|⟨rfl,f',vs',rfl⟩
    all_goals
     refine ⟨zcV fun d=>?_,by simp,by simp,by simp,by simp,by simp,by simp,by simp⟩
     simp only [Op.equalIn,Sem.run_bind,ze hu,Result.andThen_ok];simp at hor
     try simp [hb]
 split at h
 ·rename_i b2 h1 h2;simp at h;subst h;exact both _ _ h1 h2 (.inl rfl) (by simp)
 ·rename_i h1 h2;simp at h;subst h;exact both _ _ h1 h2 (.inr rfl) (by simp)
 ·simp at h
 ·split at h
  ·rename_i x y p q _ _ _;simp at h;subst h;have e1:=hx.bool_inv;have e2:=hy.bool_inv;subst e1;subst e2
   refine ⟨zcV fun d=>?_,by simp,by simp,by simp,by simp,by simp,by simp,by simp⟩
   have hu:P.underlying t=some .bool:=hk;simp only [Op.equalIn,Sem.run_bind,ze hu,Result.andThen_ok];rfl
  ·simp at h
theorem zcd {op:BinOp} {t:TypeId} {X Y:Operand} {v u:Value} (h1:∀ c1 c2,¬ (v=.agg c1/\u=.agg c2)) (h2:v=.nilIface->False):(eqGuard op t X Y v u).run P w=.ok () w:=by
 unfold eqGuard
 cases op<;>simp
 all_goals
  cases v<;>cases u<;>first|rfl|exact (h2 rfl).elim|exact (h1 _ _ ⟨rfl,rfl⟩).elim
theorem zoN (hE:ERel (Imm S base φ H w) φ w env a) {X Y:Operand} {x y:Opnd} {op:BinOp} {t t':TypeId} {d:EqK} {av:AV} (hx:zu X=some x) (hy:zu Y=some y)
  (hk:kOf P t d) (hop:o.op=.binOp op t X Y t') (h:vbin op d (x.eval env) (y.eval env)=some av):Ran C S base φ H w (.val av) ((execOp a.eval o).run P w):=by
 have hxv:=zw hE hx;have hyv:=zw hE hy
 suffices hs:∃ v,(eqGuard op t X Y (a.eval X) (a.eval Y)).run P w=.ok () w/\(binOp op t (a.eval X) (a.eval Y)).run P w=.ok v w/\VRel (Imm S base φ H w) φ w av v by
  obtain ⟨v,h1,h2,h3⟩:=hs
  refine zN (v:=v) ?_ h3
  simp only [execOp,hop,Sem.run_bind,h1,h2,Result.andThen_ok,Sem.run_pure]
 generalize a.eval X=v at *;generalize a.eval Y=u at *;unfold vbin at h
 split at h
 ·rename_i k p k' q e1 e2;rw [e1] at hxv;rw [e2] at hyv;have f1:=hxv.int_inv;have f2:=hyv.int_inv;subst f1;subst f2
  split at h
  ·cases hs:ze5 op k p q with
   | none=>simp [hs] at h
   | some r =>
    simp [hs] at h;subst h;obtain ⟨v,g1,g2⟩:=ziZ (P:=P) (w:=w) (t:=t) (k':=k') (I:=Imm S base φ H w) hs;exact ⟨v,zcd (by simp) (by simp),g1,.pure _ _ g2⟩
  ·rename_i hns
   split at h
   ·rename_i hkk;subst hkk
    cases hs:zbG op k p q with
    | none=>simp [hs] at h
    | some r =>
     simp [hs] at h;subst h;obtain ⟨v,g1,g2⟩:=zkH (P:=P) (w:=w) (t:=t) (I:=Imm S base φ H w) hns hs;exact ⟨v,zcd (by simp) (by simp),g1,.pure _ _ g2⟩
   ·simp at h
 ·rename_i p q e1 e2;rw [e1] at hxv;rw [e2] at hyv;have f1:=hxv.str_inv;have f2:=hyv.str_inv;subst f1;subst f2
  cases hs:ziu op p q with
  | none=>simp [hs] at h
  | some r =>
   simp [hs] at h;subst h;obtain ⟨v,g1,g2⟩:=zkE (P:=P) (w:=w) (t:=t) (I:=Imm S base φ H w) hs;exact ⟨v,zcd (by simp) (by simp),g1,.pure _ _ g2⟩
 ·split at h
  ·cases hs:eqB d (x.eval env) (y.eval env) with
   | none=>simp [hs] at h
   | some r =>
    simp [hs] at h;subst h;obtain ⟨g1,g2,g3,g4,g5,g6,g7,g8⟩:=zlO hk hxv hyv hs
    refine ⟨.bool r,zcd g2 g3,?_,.pure _ _ (.bool _)⟩
    unfold binOp
    split<;>first
     | contradiction
     | exact absurd rfl (g4 _ _)
     | exact absurd rfl (g7 _ _)
     | exact absurd rfl (g8 _ _ _)
     | exact absurd ⟨rfl,rfl⟩ (g6 _ _)
     | simp [g1]
     | simp_all
  ·cases hs:eqB d (x.eval env) (y.eval env) with
   | none=>simp [hs] at h
   | some r =>
    simp [hs] at h;subst h;obtain ⟨g1,g2,g3,g4,g5,g6,g7,g8⟩:=zlO hk hxv hyv hs
    refine ⟨.bool (!r),zcd g2 g3,?_,.pure _ _ (.bool _)⟩
    unfold binOp
    split<;>first
     | contradiction
     | exact absurd rfl (g4 _ _)
     | exact absurd rfl (g7 _ _)
     | exact absurd rfl (g8 _ _ _)
     | exact absurd ⟨rfl,rfl⟩ (g6 _ _)
     | simp [g1]
     | simp_all
  ·simp at h
theorem zqk (hE:ERel (Imm S base φ H w) φ w env a) {X:Operand} {x:Opnd} {op:UnOp} {t:TypeId} {av:AV} (hx:zu X=some x) (hop:o.op=.unOp op t X) (h:vun op (x.eval env)=some av) :
  Ran C S base φ H w (.val av) ((execOp a.eval o).run P w):=by
 have hv:=zw hE hx;unfold vun at h
 split at h
 ·rename_i b e1;rw [e1] at hv;simp at h;subst h;exact zN (v:=.bool (!b)) (by simp [execOp,hop,hv.bool_inv,Op.unary]) (.pure _ _ (.bool _))
 ·rename_i k n e1;rw [e1] at hv;simp at h;subst h;exact zN (v:=.int k (k.wrap (-n))) (by simp [execOp,hop,hv.int_inv,Op.unary,Op.intArith]) (.pure _ _ (.int _ _))
 ·simp at h
end
section
variable {C:Comp} {P:Program} {S:Bool->Nat->Prop} {base:Nat} {φ:Phi} {H:Heap} {w:World} {env:Env} {a:Act} {e:Eff} {o:Oper} {I:Bool->Nat->Prop}
theorem VRel.agg_inv {cs:List AV} {v:Value} (h:VRel I φ w (.agg cs) v):∃ vs,v=.agg vs:=by
 cases h with
 | agg _ vs _ _=>exact ⟨vs,rfl⟩
theorem Rep.agg_inv {cs:List PV} {v:Value} (h:Rep I w (.agg cs) v):∃ vs,v=.agg vs:=by
 cases h with
 | agg _ vs _ _=>exact ⟨vs,rfl⟩
theorem zmN (hE:ERel (Imm S base φ H w) φ w env a) {X:Operand} {x:Opnd} {s t:TypeId} {k k' k0:IntKind} {n:Int} (hx:zu X=some x) (hs:P.underlying s=some (.int k0)) (ht:P.underlying t=some (.int k))
  (hop:o.op=.convert s t X) (hv:x.eval env=.pure (.int k' n)):Ran C S base φ H w (.val (.pure (.int k (k.wrap n)))) ((execOp a.eval o).run P w):=by
 have h:=zw hE hx;rw [hv] at h
 refine zN (v:=.int k (k.wrap n)) ?_ (.pure _ _ (.int _ _))
 simp only [execOp,hop,convert,Sem.run_bind,ze hs,ze ht,Result.andThen_ok,h.int_inv];rfl
theorem zi0 (hE:ERel (Imm S base φ H w) φ w env a) {f:FuncId} {first caps:Array Operand} {xs:List Opnd} (h0:first.size=0) (hx:zbh caps.toList=some xs) (hop:o.op=.makeFunc (.func f) first caps) :
  Ran C S base φ H w (.val (zff f (xs.map (·.eval env)))) ((execOp a.eval o).run P w):=by
 have h1:first=#[]:=Array.eq_empty_of_size_eq_zero h0
 subst h1;have hr:=zcC hE hx
 refine zN (v:=.func (.func f) #[] (caps.map a.eval)) ?_ (by have h7:=zmy (f:=f) hr;have e:(caps.toList.map a.eval).toArray=caps.map a.eval:=(by apply Array.ext';simp);rw [e] at h7;exact h7)
 simp [execOp,hop,Instr.makeFunc]
theorem ziX (hE:ERel (Imm S base φ H w) φ w env a) {f:FuncId} {first caps:Array Operand} {xs:List Opnd} (h0:caps.size=0) (hx:zbh first.toList=some xs) (hop:o.op=.makeFunc (.func f) first caps) {ps:List PV} (hp:zad (xs.map (·.eval env))=some ps) :
  Ran C S base φ H w (.val (.pure (.meth f ps))) ((execOp a.eval o).run P w):=by
 have h1:caps=#[]:=Array.eq_empty_of_size_eq_zero h0;subst h1;have hr:=zcC hE hx;have he:=zcw hp
 refine zN (v:=.func (.func f) (first.map a.eval) #[]) ?_ (.pure _ _ (.meth f ps _ ?_ fun i p v h1 h2=>?_))
 ·simp [execOp,hop,Instr.makeFunc]
 ·have:=hr.1;rw [he] at this
  simpa using this
 ·refine (hr.2 i (.pure p) v ?_ ?_).pure_inv
  ·rw [he];simp [h1]
  ·simpa using h2
theorem zcX (hE:ERel (Imm S base φ H w) φ w env a) {X:Operand} {x:Opnd} {i:Nat} {av:AV} (hx:zu X=some x) (hop:o.op=.extract X i)
  (h:(∃ vs,x.eval env=.pure (.tup vs)/\∃ p,vs[i]?=some p/\av=.pure p)\/(∃ vs,x.eval env=.tup vs/\vs[i]?=some av)):Ran C S base φ H w (.val av) ((execOp a.eval o).run P w):=by
 have hv:=zw hE hx;rcases h with ⟨vs,e1,p,e2,rfl⟩|⟨vs,e1,e2⟩
 ·rw [e1] at hv;obtain ⟨us,f1,f2,f3⟩:=hv.pure_inv.tup_inv;have hi:i < vs.length:=(List.getElem?_eq_some_iff.1 e2).1;have hu:us[i]?=some (us[i]'(by omega)):=Array.getElem?_eq_getElem (by omega)
  refine zN (v:=us[i]'(by omega)) ?_ (.pure _ _ (f3 i p _ e2 hu))
  simp [execOp,hop,f1,Instr.extract,hu]
 ·rw [e1] at hv;obtain ⟨us,f1,f2,f3⟩:=hv.tup_inv;have hi:i < vs.length:=(List.getElem?_eq_some_iff.1 e2).1;have hu:us[i]?=some (us[i]'(by omega)):=Array.getElem?_eq_getElem (by omega)
  refine zN (v:=us[i]'(by omega)) ?_ (f3 i _ _ e2 hu)
  simp [execOp,hop,f1,Instr.extract,hu]
theorem zkV (hE:ERel (Imm S base φ H w) φ w env a) {X Y:Operand} {x y:Opnd} {t:TypeId} {s:ByteArray} {k:IntKind} {n:Int} {b:UInt8} (hx:zu X=some x) (hy:zu Y=some y) (ht:P.underlying t=some .string)
  (hop:o.op=.index t X Y) (hs:x.eval env=.pure (.str s)) (hn:y.eval env=.pure (.int k n)) (h0:0<=n) (hb:s[n.toNat]?=some b) :
  Ran C S base φ H w (.val (.pure (.int .u8 b.toNat))) ((execOp a.eval o).run P w):=by
 have h1:=zw hE hx;rw [hs] at h1;have h2:=zw hE hy;rw [hn] at h2
 refine zN (v:=.int .u8 b.toNat) ?_ (.pure _ _ (.int _ _))
 simp only [execOp,hop,Instr.index,h1.str_inv,h2.int_inv,asIntOf,Sem.run_bind,Sem.run_pure,Result.andThen_ok,ze ht];rw [if_pos h0,hb];rfl
theorem zjP (hE:ERel (Imm S base φ H w) φ w env a) {X:Operand} {x:Opnd} {t e:TypeId} {n:Nat} {c:Call} (hx:zu X=some x) (ht:P.underlying t=some (.array n e)) (hop:o.op=.call c) (hc:c.callee=.builtin .len)
  (h1:c.args.toList=[X]) (h2:c.argTypes.toList=[t]):Ran C S base φ H w (.val (.pure (.int .i64 n))) ((execOp a.eval o).run P w):=by
 have ha:c.args=#[X]:=by rw [<- h1]
 have hb:c.argTypes=#[t]:=by rw [<- h2]
 refine zN (v:=.int .i64 n) ?_ (.pure _ _ (.int _ _))
 simp [execOp,hop,resolve,hc,invoke,builtin,Builtin.len_,ha,hb,ze ht,goInt]
theorem zgb (hE:ERel (Imm S base φ H w) φ w env a) {X:Operand} {x:Opnd} {t:TypeId} {c:Call} {n:Nat} (hx:zu X=some x) (ht:P.underlying t=some .string\/∃ e,P.underlying t=some (.slice e)) (hop:o.op=.call c) (hc:c.callee=.builtin .len)
  (h1:c.args.toList=[X]) (h2:c.argTypes.toList=[t])
  (h:(P.underlying t=some .string/\∃ s,x.eval env=.pure (.str s)/\n=s.size)\/((∃ e,P.underlying t=some (.slice e))/\((x.eval env=.pure .nils/\n=0)\/(∃ k sz es,x.eval env=.pure (.slice k sz es)/\n=es.length)\/∃ i s o,x.eval env=.row i s o n))) :
  Ran C S base φ H w (.val (.pure (.int .i64 n))) ((execOp a.eval o).run P w):=by
 have ha:c.args=#[X]:=by rw [<- h1]
 have hb:c.argTypes=#[t]:=by rw [<- h2]
 have hv:=zw hE hx
 refine zN (v:=.int .i64 n) ?_ (.pure _ _ (.int _ _))
 rcases h with ⟨hu,s,e1,rfl⟩|⟨⟨e,hu⟩,⟨e1,rfl⟩|⟨k,sz,es,e1,rfl⟩|⟨i,s,off,e1⟩⟩
 ·rw [e1] at hv;simp [execOp,hop,resolve,hc,invoke,builtin,Builtin.len_,ha,hb,ze hu,goInt,hv.str_inv]
 ·rw [e1] at hv;simp [execOp,hop,resolve,hc,invoke,builtin,Builtin.len_,ha,hb,ze hu,goInt,hv.pure_inv.nils_inv]
 ·rw [e1] at hv;obtain ⟨b',o',cap,val,hv',_⟩:=hv.pure_inv.slice_inv;simp [execOp,hop,resolve,hc,invoke,builtin,Builtin.len_,ha,hb,ze hu,goInt,hv']
 ·rw [e1] at hv;obtain ⟨b',n',cap,_,hv',_⟩:=hv.row_inv;simp [execOp,hop,resolve,hc,invoke,builtin,Builtin.len_,ha,hb,ze hu,goInt,hv']
theorem zf1 (mx:Bool) {k:IntKind}:∀ {vs:List AV} {us:List Value} {x n:Int},VRels I φ w vs us->zbS mx k x vs=some n ->
  (us.foldlM (if mx then Builtin.max2 else Builtin.min2) (.int k x)).run P w=.ok (.int k n) w
 | [],us,x,n,hr,h=>by
  rw [hr.nil_inv];simp [zbS] at h;subst h;simp
 | v::vs,us,x,n,hr,h=>by
  obtain ⟨u,us',rfl,h1,h2⟩:=hr.cons_inv;unfold zbS at h
  split at h
  ·rename_i heq;cases heq
  ·rename_i a k' b rest heq;simp at heq;obtain ⟨rfl,rfl⟩:=heq;have hu:=h1.int_inv;subst hu;have ih:=zf1 mx h2 h;simp only [List.foldlM_cons,Sem.run_bind]
   cases mx
   ·simp only [Bool.false_eq_true,if_false,Builtin.min2,Sem.run_pure,Result.andThen_ok] at ih ⊢;exact ih
   ·simp only [if_true,Builtin.max2,Sem.run_pure,Result.andThen_ok] at ih ⊢;exact ih
  ·simp at h
theorem zgJ (hE:ERel (Imm S base φ H w) φ w env a) {c:Call} {xs:List Opnd} {mx:Bool} {k:IntKind} {p n:Int} {rest:List AV} (hx:zbh c.args.toList=some xs) (hop:o.op=.call c)
  (hc:c.callee=.builtin (if mx then .max else .min)) (h1:(xs.map fun x=>x.eval env)=.pure (.int k p)::rest) (h2:zbS mx k p rest=some n) :
  Ran C S base φ H w (.val (.pure (.int k n))) ((execOp a.eval o).run P w):=by
 have hr:=zcC hE hx;rw [h1] at hr;obtain ⟨u,us,e1,e2,e3⟩:=hr.cons_inv;have hu:=e2.int_inv;subst hu;have hrun:=zf1 (P:=P) mx e3 h2;have e1':(c.args.map a.eval).toList=.int k p::us:=by rw [Array.toList_map,e1]
 refine zN (v:=.int k n) ?_ (.pure _ _ (.int _ _))
 cases mx
 ·simp only [Bool.false_eq_true,if_false] at hc hrun;simp only [execOp,hop,resolve,hc,invoke,builtin,Builtin.min_,e1',Sem.run_bind,Sem.run_pure,Result.andThen_ok,hrun]
 ·simp only [if_true] at hc hrun;simp only [execOp,hop,resolve,hc,invoke,builtin,Builtin.max_,e1',Sem.run_bind,Sem.run_pure,Result.andThen_ok,hrun]
theorem zeq (hE:ERel (Imm S base φ H w) φ w env a) {X:Operand} {x:Opnd} {t:TypeId} {i s:Nat} {fs:Array Field} {f:Field} {av:AV} (hx:zu X=some x) (ht:P.underlying t=some (.struct fs)) (hf:fs[i]?=some f)
  (hs:zR P f.type=some s) (h0:s≠0) (hop:o.op=.fieldAddr t X i)
  (h:(∃ kk cs q,x.eval env=.pure (.ptr kk cs q)/\av=.pure (.ptr kk cs (q+f.offset)))\/∃ id q,x.eval env=.box id q/\av=.box id (q+f.offset)) :
  Ran C S base φ H w (.val av) ((execOp a.eval o).run P w):=by
 have hv:=zw hE hx;have hrun:∀ b q,a.eval X=.pointer (some ⟨b,q,none⟩)->(execOp a.eval o).run P w=.ok (.value (.pointer (some ⟨b,q+f.offset,none⟩))) w:=by
  intro b q hX;simp only [execOp,hop,Instr.fieldAt,hX,Instr.sureAddr,fieldPlace,Sem.run_bind,ze ht,Result.andThen_ok,hf,Sem.run_pure,zO hs];rw [if_neg h0];simp [zaQ]
 rcases h with ⟨kk,cs,q,e1,rfl⟩|⟨id,q,e1,rfl⟩
 ·rw [e1] at hv;obtain ⟨b,o',val,e2,e3,e4⟩:=hv.pure_inv.ptr_inv
  refine zN (hrun _ _ e2) (.pure _ _ (.ptr kk cs (q+f.offset) b o' _ val (by omega) e3 e4))
 ·rw [e1] at hv;obtain ⟨b,n,e2,e3⟩:=hv.box_inv;exact zN (hrun _ _ e3) (.box id _ b n e2)
theorem VRels.sub {cs:List AV} {vs:Array Value} (h:VRels I φ w cs vs.toList) (off s:Nat):VRels I φ w ((cs.drop off).take s) (vs.extract off (off+s)).toList:=by
 have:=(h.drop off).take s
 simpa [List.extract_eq_take_drop] using this
theorem zjH {t:TypeId} {g:Bool} {s off:Nat} {cs:List AV} {vs:Array Value} {av:AV} (hg:aggP P t=some g) (hs:zR P t=some s) (h1:g=false->s=1) (hr:VRels I φ w cs vs.toList)
  (hle:off+s<=cs.length) (ho:zae g ((cs.drop off).take s)=some av):∃ v,(part t vs off).run P w=.ok v w/\VRel I φ w av v:=by
 have hsub:=hr.sub off s;have hlen:cs.length=vs.size:=by have:=hr.1;simpa using this
 simp only [part,Sem.run_bind,zez hg,Result.andThen_ok]
 cases g with
 | true =>
  simp only [if_true,Sem.run_bind,zO hs,Result.andThen_ok,Sem.run_pure]
  refine ⟨_,rfl,?_⟩
  have:=zd5 hsub ho;simp only [if_true,Array.toArray_toList] at this;exact this
 | false =>
  have h1':=h1 rfl;subst h1';have hlt:off < vs.size:=by omega
  refine ⟨vs[off],by simp [Array.getElem?_eq_getElem hlt],?_⟩
  have hc:cs[off]?=some (cs[off]'(by omega)):=List.getElem?_eq_getElem (by omega);have e:(cs.drop off).take 1=[cs[off]'(by omega)]:=by
   rw [List.drop_eq_getElem_cons (by omega)];rfl
  rw [e] at ho;simp [zae] at ho;subst ho;exact hr.2 off _ _ hc (by simp [Array.getElem?_eq_getElem hlt])
theorem zmw (hE:ERel (Imm S base φ H w) φ w env a) {X:Operand} {x:Opnd} {t:TypeId} {i s:Nat} {g:Bool} {fs:Array Field} {f:Field} {av:AV} (hx:zu X=some x) (ht:P.underlying t=some (.struct fs)) (hf:fs[i]?=some f)
  (hs:zR P f.type=some s) (hg:aggP P f.type=some g) (h1:g=false->s=1) (hop:o.op=.field t X i) (hag:(∃ cs,x.eval env=.agg cs)\/∃ ps,x.eval env=.pure (.agg ps))
  (hle:f.offset+s<=(x.eval env).cells.length) (ho:zae g (((x.eval env).cells.drop f.offset).take s)=some av):Ran C S base φ H w (.val av) ((execOp a.eval o).run P w):=by
 have hv:=zw hE hx;have hu:x.eval env≠.undef:=by rcases hag with ⟨cs,e⟩|⟨ps,e⟩<;>rw [e]<;>simp
 have hcs:=hv.cells hu;have hX:∃ vs,a.eval X=.agg vs:=by
  rcases hag with ⟨cs,e⟩|⟨ps,e⟩<;>rw [e] at hv
  ·exact hv.agg_inv
  ·exact hv.pure_inv.agg_inv
 obtain ⟨vs,hX⟩:=hX;rw [hX] at hcs;obtain ⟨v,e1,e2⟩:=zjH (P:=P) hg hs h1 hcs hle ho
 refine zN (v:=v) ?_ e2
 simp only [execOp,hop,Instr.field,Sem.run_bind,ze ht,Result.andThen_ok,hf,hX,asAgg,Sem.run_pure];simp only [Value.cells] at e1;simp [e1]
theorem zmG (hE:ERel (Imm S base φ H w) φ w env a) {X Y:Operand} {x y:Opnd} {t el:TypeId} {len s:Nat} {g:Bool} {k:IntKind} {n:Int} {av:AV} (hx:zu X=some x) (hy:zu Y=some y) (ht:P.underlying t=some (.array len el))
  (hs:zR P el=some s) (hg:aggP P el=some g) (h1:g=false->s=1) (hop:o.op=.index t X Y) (hag:(∃ cs,x.eval env=.agg cs)\/∃ ps,x.eval env=.pure (.agg ps)) (hn:y.eval env=.pure (.int k n))
  (h0:0<=n) (hlt:n < len) (hle:n.toNat*s+s<=(x.eval env).cells.length) (ho:zae g (((x.eval env).cells.drop (n.toNat*s)).take s)=some av):Ran C S base φ H w (.val av) ((execOp a.eval o).run P w):=by
 have hv:=zw hE hx;have hy':=zw hE hy;rw [hn] at hy';have hu:x.eval env≠.undef:=by rcases hag with ⟨cs,e⟩|⟨ps,e⟩<;>rw [e]<;>simp
 have hcs:=hv.cells hu;have hX:∃ vs,a.eval X=.agg vs:=by
  rcases hag with ⟨cs,e⟩|⟨ps,e⟩<;>rw [e] at hv
  ·exact hv.agg_inv
  ·exact hv.pure_inv.agg_inv
 obtain ⟨vs,hX⟩:=hX;rw [hX] at hcs;obtain ⟨v,e1,e2⟩:=zjH (P:=P) hg hs h1 hcs hle ho
 refine zN (v:=v) ?_ e2
 simp only [execOp,hop,Instr.index,hy'.int_inv,asIntOf,Sem.run_bind,Sem.run_pure,Result.andThen_ok,ze ht,hX];rw [if_pos ⟨h0,hlt⟩];simp only [Value.cells] at e1;simp only [Sem.run_bind,zO hs,Result.andThen_ok,e1,Sem.run_pure]
theorem zc5 (hE:ERel (Imm S base φ H w) φ w env a) {X Y:Operand} {x y:Opnd} {t el:TypeId} {len s:Nat} {k:IntKind} {n:Int} {av:AV} (hx:zu X=some x) (hy:zu Y=some y) (ht:P.underlying t=some (.array len el))
  (hs:zR P el=some s) (hop:o.op=.indexAddr t X Y) (hn:y.eval env=.pure (.int k n)) (h0:0<=n) (hlt:n < len)
  (h:(∃ kk cs q,x.eval env=.pure (.ptr kk cs q)/\av=.pure (.ptr kk cs (q+n.toNat*s)))\/∃ id q,x.eval env=.box id q/\av=.box id (q+n.toNat*s)):Ran C S base φ H w (.val av) ((execOp a.eval o).run P w):=by
 have hv:=zw hE hx;have hy':=zw hE hy;rw [hn] at hy';have hrun:∀ b q,a.eval X=.pointer (some ⟨b,q,none⟩)->(execOp a.eval o).run P w=.ok (.value (.pointer (some ⟨b,q+n.toNat*s,none⟩))) w:=by
  intro b q hX;simp only [execOp,hop,Instr.indexAt,hX,Instr.sureAddr,Sem.run_bind,Sem.run_pure,Result.andThen_ok,ze ht,hy'.int_inv,asIntOf];rw [if_pos ⟨h0,hlt⟩];simp [zO hs,zaQ]
 rcases h with ⟨kk,cs,q,e1,rfl⟩|⟨id,q,e1,rfl⟩
 ·rw [e1] at hv;obtain ⟨b,o',val,e2,e3,e4⟩:=hv.pure_inv.ptr_inv;exact zN (hrun _ _ e2) (.pure _ _ (.ptr kk cs _ b o' _ val (by omega) e3 e4))
 ·rw [e1] at hv;obtain ⟨b,m,e2,e3⟩:=hv.box_inv;exact zN (hrun _ _ e3) (.box id _ b m e2)
theorem zdq (hE:ERel (Imm S base φ H w) φ w env a) {X Y:Operand} {x y:Opnd} {t el:TypeId} {s:Nat} {k:IntKind} {n:Int} {av:AV} (hx:zu X=some x) (hy:zu Y=some y) (ht:P.underlying t=some (.slice el))
  (hs:zR P el=some s) (hop:o.op=.indexAddr t X Y) (hn:y.eval env=.pure (.int k n)) (h0:0<=n)
  (h:(∃ kk es e,x.eval env=.pure (.slice kk s es)/\es[n.toNat]?=some e/\av=.pure (.ptr kk e 0))\/∃ id q len,x.eval env=.row id s q len/\n < len/\av=.box id (q*s+n.toNat*s)):Ran C S base φ H w (.val av) ((execOp a.eval o).run P w):=by
 have hv:=zw hE hx;have hy':=zw hE hy;rw [hn] at hy';have hrun:∀ b q len cap,a.eval X=.slice (some ⟨b,q,none⟩) len cap->n < len->(execOp a.eval o).run P w=.ok (.value (.pointer (some ⟨b,q+n.toNat*s,none⟩))) w:=by
  intro b q len cap hX hlt;simp only [execOp,hop,Instr.indexAt,hX,Sem.run_bind,Sem.run_pure,Result.andThen_ok,ze ht,hy'.int_inv,asIntOf];rw [if_pos ⟨h0,hlt⟩];simp [zO hs,zaQ]
 rcases h with ⟨kk,es,el',e1,e2,rfl⟩|⟨id,q,len,e1,hlt,rfl⟩
 ·rw [e1] at hv;obtain ⟨b,o',cap,val,f1,f2,f3,f4,f5⟩:=hv.pure_inv.slice_inv;have hlt:n.toNat < es.length:=(List.getElem?_eq_some_iff.1 e2).1
  refine zN (hrun _ _ _ _ f1 (by omega)) (.pure _ _ (.ptr kk el' 0 b (o'+n.toNat*s) _ (val n.toNat) rfl (fun j p hp=>?_) fun j p hp=>f5 _ _ _ _ e2 hp))
  obtain ⟨g1,g2⟩:=f4 _ _ _ _ e2 hp;exact ⟨g1,g2⟩
 ·rw [e1] at hv;obtain ⟨b,m,cap,f1,f2,f3,f4⟩:=hv.row_inv;exact zN (hrun _ _ _ _ f2 hlt) (.box id _ b m f1)
theorem zcF (hE:ERel I φ w env a) {n d r:Nat} {X:Operand} {x:Opnd} {code:BoundsCode} (hx:zu X=some x) (h:bound env n d (some x)=some r) :
  (Instr.sliceBound (a.eval X) n code).run P w=.ok r w/\r<=n:=by
 have hv:=zw hE hx;unfold bound at h;simp only at h
 split at h
 ·rename_i k i e1;rw [e1] at hv;unfold zgw at h
  split at h
  ·rename_i hc;simp at h;subst h
   refine ⟨?_,by omega⟩
   simp only [Instr.sliceBound,hv.int_inv,asIntOf,Sem.run_bind,Sem.run_pure,Result.andThen_ok];rw [if_pos hc];rfl
  ·simp at h
 ·simp at h
theorem zdI (hE:ERel I φ w env a) {isS:Bool} {len N cap l h:Nat} {lo hi:Option Operand} {lo' hi':Option Opnd} (hlo:zbL lo=some lo') (hhi:zbL hi=some hi') (hc:N<=cap) (hln:len<=N)
  (h1:bound env N len hi'=some h) (h2:bound env h 0 lo'=some l) :
  (Instr.sliceBounds isS len cap (lo.map a.eval) (hi.map a.eval) none).run P w=.ok (l,h,cap) w/\l<=h/\h<=N:=by
 have e1:h<=N/\((hi=none/\h=len)\/∃ X,hi=some X/\∀ code,(Instr.sliceBound (a.eval X) cap code).run P w=.ok h w):=by
  cases hi with
  | none =>
   simp [zbL] at hhi;subst hhi;simp [bound] at h1;subst h1;exact ⟨hln,.inl ⟨rfl,rfl⟩⟩
  | some X =>
   simp only [zbL] at hhi
   cases hX:zu X with
   | none=>simp [hX] at hhi
   | some x =>
    simp [hX] at hhi;subst hhi
    -- within the length,so within the capacity
    unfold bound at h1;simp only at h1
    split at h1
    ·rename_i k i e;unfold zgw at h1
     split at h1
     ·rename_i hcc;simp at h1;subst h1
      refine ⟨by omega,.inr ⟨X,rfl,fun code=>?_⟩⟩
      exact (zcF (P:=P) (code:=code) (n:=cap) (d:=len) (r:=i.toNat) hE hX (by simp only [bound,e,zgw];rw [if_pos ⟨hcc.1,by omega⟩])).1
     ·simp at h1
    ·simp at h1
 have e2:l<=h/\((lo=none/\l=0)\/∃ X,lo=some X/\∀ code,(Instr.sliceBound (a.eval X) h code).run P w=.ok l w):=by
  cases lo with
  | none =>
   simp [zbL] at hlo;subst hlo;simp [bound] at h2;subst h2;exact ⟨Nat.zero_le _,.inl ⟨rfl,rfl⟩⟩
  | some X =>
   simp only [zbL] at hlo
   cases hX:zu X with
   | none=>simp [hX] at hlo
   | some x =>
    simp [hX] at hlo;subst hlo
    refine ⟨(zcF (P:=P) (code:=.index) hE hX h2).2,.inr ⟨X,rfl,fun code=>(zcF (P:=P) hE hX h2).1⟩⟩
 refine ⟨?_,e2.1,e1.1⟩
 rcases e1.2 with ⟨rfl,rfl⟩|⟨X,rfl,r1⟩<;>rcases e2.2 with ⟨rfl,rfl⟩|⟨Y,rfl,r2⟩
 ·simp [Instr.sliceBounds]
 ·simp [Instr.sliceBounds,r2]
 ·simp [Instr.sliceBounds,r1]
 ·simp [Instr.sliceBounds,r1,r2]
theorem za9 {t el:TypeId} (ht:P.underlying t=some (.slice el)) (x:Value) (lo hi mx:Option Value):(Instr.sliceAt t x lo hi mx).run P w=(Instr.slice t x lo hi mx).run P w:=by
 simp [Instr.sliceAt,ze ht]
theorem zjT {t:TypeId} (ht:P.underlying t=some .string) (x:Value) (lo hi mx:Option Value):(Instr.sliceAt t x lo hi mx).run P w=(Instr.slice t x lo hi mx).run P w:=by
 simp [Instr.sliceAt,ze ht]
theorem zkt (hE:ERel (Imm S base φ H w) φ w env a) {X:Operand} {x:Opnd} {t:TypeId} {lo hi:Option Operand} {lo' hi':Option Opnd} {s:ByteArray} {l h:Nat} (hx:zu X=some x) (ht:P.underlying t=some .string) (hlo:zbL lo=some lo') (hhi:zbL hi=some hi')
  (hop:o.op=.slice t X lo hi none) (hv:x.eval env=.pure (.str s)) (h1:bound env s.size s.size hi'=some h) (h2:bound env h 0 lo'=some l) :
  Ran C S base φ H w (.val (.pure (.str (s.extract l h)))) ((execOp a.eval o).run P w):=by
 have hX:=zw hE hx;rw [hv] at hX;obtain ⟨b1,b2,b3⟩:=zdI (P:=P) (isS:=false) hE hlo hhi (Nat.le_refl s.size) (Nat.le_refl _) h1 h2
 refine zN (v:=.string (s.extract l h)) ?_ (.pure _ _ (.str _))
 simp only [execOp,hop,Sem.run_bind,Option.map_none,zjT ht,Instr.slice,ze ht,Result.andThen_ok,hX.str_inv,Option.isSome_none,Bool.false_eq_true,if_false,b1,Sem.run_pure]
theorem zhA (hE:ERel (Imm S base φ H w) φ w env a) {X:Operand} {x:Opnd} {t el:TypeId} {sz:Nat} {lo hi:Option Operand} {lo' hi':Option Opnd} {l h:Nat} (hx:zu X=some x) (ht:P.underlying t=some (.slice el)) (hs:zR P el=some sz) (hlo:zbL lo=some lo') (hhi:zbL hi=some hi')
  (hop:o.op=.slice t X lo hi none) (hv:x.eval env=.pure .nils) (h1:bound env 0 0 hi'=some h) (h2:bound env 0 0 lo'=some l) :
  Ran C S base φ H w (.val (.pure .nils)) ((execOp a.eval o).run P w):=by
 have hX:=zw hE hx;rw [hv] at hX;have hh:h=0:=by
  unfold bound at h1
  split at h1
  ·simpa using h1.symm
  ·split at h1
   ·unfold zgw at h1
    split at h1
    ·simp at h1;omega
    ·simp at h1
   ·simp at h1
 subst hh;obtain ⟨b1,b2,b3⟩:=zdI (P:=P) (isS:=true) hE hlo hhi (Nat.le_refl 0) (Nat.le_refl _) h1 h2;have hl:l=0:=by omega
 subst hl
 refine zN (v:=.slice none 0 0) ?_ (.pure _ _ .nils)
 simp only [execOp,hop,Sem.run_bind,Option.map_none,za9 ht,Instr.slice,ze ht,Result.andThen_ok,hX.pure_inv.nils_inv,b1,zO hs,Sem.run_pure];rfl
theorem zg6 (hE:ERel (Imm S base φ H w) φ w env a) {X:Operand} {x:Opnd} {t el:TypeId} {sz:Nat} {lo hi:Option Operand} {lo' hi':Option Opnd} {l h:Nat} {es:List (List PV)} (hx:zu X=some x) (ht:P.underlying t=some (.slice el)) (hs:zR P el=some sz) (hlo:zbL lo=some lo') (hhi:zbL hi=some hi')
  (hop:o.op=.slice t X lo hi none) {kk:Bool} (hv:x.eval env=.pure (.slice kk sz es)) (h1:bound env es.length es.length hi'=some h) (h2:bound env h 0 lo'=some l) :
  Ran C S base φ H w (.val (.pure (.slice kk sz ((es.take h).drop l)))) ((execOp a.eval o).run P w):=by
 have hX:=zw hE hx;rw [hv] at hX;obtain ⟨b,q,cap,val,f1,f2,f3,f4,f5⟩:=hX.pure_inv.slice_inv;obtain ⟨b1,b2,b3⟩:=zdI (P:=P) (isS:=true) hE hlo hhi f2 (Nat.le_refl _) h1 h2;have hget:∀ (i:Nat) e,((es.take h).drop l)[i]?=some e->es[l+i]?=some e:=fun i e he=>by
  rw [List.getElem?_drop] at he;have:l+i < h:=by have:=(List.getElem?_eq_some_iff.1 he).1;simp at this;omega
  rwa [List.getElem?_take_of_lt this] at he
 by_cases hm:cap=l
 ·have hemp:(es.take h).drop l=[]:=by rw [List.drop_eq_nil_iff];simp;omega
  refine zN (v:=.slice (some ⟨b,q,none⟩) (h - l) (cap - l)) ?_ (.pure _ _ (.slice kk sz _ b q _ _ val (by simp;omega) (by omega) (fun i e he=>by rw [hemp] at he;simp at he) (fun i e j p he=>by rw [hemp] at he;simp at he) (fun i e j p he=>by rw [hemp] at he;simp at he)))
  simp only [execOp,hop,Sem.run_bind,Option.map_none,za9 ht,Instr.slice,ze ht,Result.andThen_ok,f1,b1,zO hs,Sem.run_pure];rw [if_pos hm]
 ·refine zN (v:=.slice (some ⟨b,q+l*sz,none⟩) (h - l) (cap - l)) ?_ (.pure _ _ (.slice kk sz _ b (q+l*sz) _ _ (fun i=>val (l+i)) (by simp;omega) (by omega) (fun i e he=>f3 _ _ (hget i e he)) (fun i e j p he hp=>?_) (fun i e j p he hp=>f5 _ _ _ _ (hget i e he) hp)))
  ·simp only [execOp,hop,Sem.run_bind,Option.map_none,za9 ht,Instr.slice,ze ht,Result.andThen_ok,f1,b1,zO hs,Sem.run_pure];rw [if_neg hm];simp [zaQ]
  ·obtain ⟨g1,g2⟩:=f4 _ _ _ _ (hget i e he) hp
   refine ⟨g1,?_⟩
   rw [<- g2]
   congr 2
   rw [Nat.add_mul];omega
theorem zhu (hH:HRel C S base φ H w) (hE:ERel (Imm S base φ H w) φ w env a) {X:Operand} {x:Opnd} {t el:TypeId} {sz id off len:Nat} {lo hi:Option Operand} {lo' hi':Option Opnd} {l h:Nat} (hx:zu X=some x) (ht:P.underlying t=some (.slice el)) (hs:zR P el=some sz) (hlo:zbL lo=some lo') (hhi:zbL hi=some hi')
  (hop:o.op=.slice t X lo hi none) (hv:x.eval env=.row id sz off len) {N:Nat} (hN:zgz H id sz off len=some N) (h1:bound env N len hi'=some h) (h2:bound env h 0 lo'=some l) :
  Ran C S base φ H w (.val (if l≠0/\h=l then .pure (.slice false sz []) else .row id sz (off+l) (h - l))) ((execOp a.eval o).run P w):=by
 have hX:=zw hE hx;rw [hv] at hX;obtain ⟨b,n,cap,f1,f2,f3,f4⟩:=hX.row_inv;have hNc:len<=N/\N<=cap:=by
  unfold zgz at hN
  split at hN
  ·rename_i own cs hg;have ho:=hH.obj _ _ _ f1;rw [hg] at ho;obtain ⟨c,e,fz,-,hcs,hle,-⟩:=ho;simp only [Option.some.injEq] at hN
   refine ⟨by omega,?_⟩
   have h2:cs.length / sz<=off+cap:=by
    rcases Nat.eq_zero_or_pos sz with h0|h0
    ·subst h0;simp
    ·exact Nat.div_le_of_le_mul (by rw [Nat.mul_comm,f4];exact hle)
   omega
  ·simp at hN
 obtain ⟨b1,b2,b3⟩:=zdI (P:=P) (isS:=true) hE hlo hhi hNc.2 hNc.1 h1 h2
 by_cases hm:cap=l
 ·have hrun:(execOp a.eval o).run P w=.ok (.value (.slice (some ⟨b,off*sz,none⟩) (h - l) (cap - l))) w:=by
   simp only [execOp,hop,Sem.run_bind,Option.map_none,za9 ht,Instr.slice,ze ht,Result.andThen_ok,f2,b1,zO hs,Sem.run_pure];rw [if_pos hm]
  by_cases h0:l≠0/\h=l
  ·rw [if_pos h0]
   refine zN hrun (.pure _ _ (.slice false sz [] b _ _ _ (fun _ _=>undef) (by simp;omega) (by omega) (fun i e he=>by simp at he) (fun i e j p he=>by simp at he) (fun i e j p he=>by simp at he)))
  ·have hl0:l=0:=by omega
   subst hl0;rw [if_neg (by simp)];exact zN hrun (.row id sz _ _ b n _ _ f1 (by simp) (by omega) (by simpa using f4))
 ·have hrun:(execOp a.eval o).run P w=.ok (.value (.slice (some ⟨b,(off+l)*sz,none⟩) (h - l) (cap - l))) w:=by
   simp only [execOp,hop,Sem.run_bind,Option.map_none,za9 ht,Instr.slice,ze ht,Result.andThen_ok,f2,b1,zO hs,Sem.run_pure];rw [if_neg hm];simp [zaQ,Nat.add_mul]
  by_cases h0:l≠0/\h=l
  ·rw [if_pos h0]
   refine zN hrun (.pure _ _ (.slice false sz [] b _ _ _ (fun _ _=>undef) (by simp;omega) (by omega) (fun i e he=>by simp at he) (fun i e j p he=>by simp at he) (fun i e j p he=>by simp at he)))
  ·rw [if_neg h0]
   refine zN hrun (.row id sz _ _ b n _ _ f1 rfl (by omega) ?_)
   have:off+l+(cap - l)=off+cap:=by omega
   rw [this];exact f4
theorem ziz {av:AV} {v:Value} {len:Nat} (hv:VRel I φ w av v) (h:zfj av=some len):∃ a cap,v=.slice a len cap/\len<=cap:=by
 unfold zfj at h
 split at h
 ·simp at h;subst h;exact ⟨none,0,hv.pure_inv.nils_inv,Nat.le_refl _⟩
 ·simp at h;subst h;obtain ⟨b,o,cap,val,h1,h2,-⟩:=hv.pure_inv.slice_inv;exact ⟨_,cap,h1,h2⟩
 ·simp at h;subst h;obtain ⟨b,n,cap,-,h1,h2,-⟩:=hv.row_inv;exact ⟨_,cap,h1,h2⟩
 ·simp at h
theorem zk1 (hE:ERel (Imm S base φ H w) φ w env a) {X Y Z:Operand} {x y z:Opnd} {t el:TypeId} {sz len:Nat} {lo:Option Operand} {lo':Option Opnd} {l h m:Nat} (hx:zu X=some x) (hy:zu Y=some y) (hz:zu Z=some z) (ht:P.underlying t=some (.slice el)) (hs:zR P el=some sz) (hlo:zbL lo=some lo')
  (hop:o.op=.slice t X lo (some Y) (some Z)) (hv:zfj (x.eval env)=some len) (h0:bound env len len (some z)=some m) (h1:bound env m m (some y)=some h) (h2:bound env h 0 lo'=some l) :
  Ran C S base φ H w (.val (cut3 sz lo' h m (x.eval env))) ((execOp a.eval o).run P w):=by
 have hxr:=zw hE hx;obtain ⟨ad,cap,e1,hc⟩:=ziz hxr hv;have hZ:∀ code,(Instr.sliceBound (a.eval Z) cap code).run P w=.ok m w:=fun code=>by
  unfold bound at h0;simp only at h0
  split at h0
  ·rename_i k i e;unfold zgw at h0
   split at h0
   ·rename_i hcc;simp at h0;subst h0;exact (zcF (P:=P) (code:=code) (n:=cap) (d:=len) (r:=i.toNat) hE hz (by simp only [bound,e,zgw];rw [if_pos ⟨hcc.1,by omega⟩])).1
   ·simp at h0
  ·simp at h0
 have hY:∀ code,(Instr.sliceBound (a.eval Y) m code).run P w=.ok h w:=fun code=>(zcF (P:=P) hE hy h1).1;have e2:(lo=none/\l=0)\/∃ W,lo=some W/\∀ code,(Instr.sliceBound (a.eval W) h code).run P w=.ok l w:=by
  cases lo with
  | none =>
   simp [zbL] at hlo;subst hlo;simp [bound] at h2;subst h2;exact .inl ⟨rfl,rfl⟩
  | some W =>
   simp only [zbL] at hlo
   cases hX:zu W with
   | none=>simp [hX] at hlo
   | some x =>
    simp [hX] at hlo;subst hlo;exact .inr ⟨W,rfl,fun code=>(zcF (P:=P) hE hX h2).1⟩
 have hb:(Instr.sliceBounds true len cap (lo.map a.eval) (some (a.eval Y)) (some (a.eval Z))).run P w=.ok (l,h,m) w:=by
  rcases e2 with ⟨rfl,rfl⟩|⟨W,rfl,r2⟩
  ·simp [Instr.sliceBounds,hZ,hY]
  ·simp [Instr.sliceBounds,hZ,hY,r2]
 refine zN (v:=.slice (if m=l then ad else ad.map (·.add (l*sz))) (h - l) (m - l)) ?_ ?_
 case refine_2 =>
  generalize x.eval env=X0 at *;unfold cut3
  split
  ·rename_i id s off len'
   split
   ·rename_i hcc;obtain ⟨rfl,rfl,hlo0⟩:=hcc;have hl0:l=0:=by
     cases lo' with
     | none=>simp [bound] at h2;exact h2.symm
     | some _=>simp at hlo0
    subst hl0;obtain ⟨b,n,cap',hid,hX,_,_⟩:=hxr.row_inv;rw [e1] at hX;simp at hX;obtain ⟨rfl,rfl,rfl⟩:=hX;have e9:(if h=0 then some (⟨b,off*s,none⟩:Addr) else (some (⟨b,off*s,none⟩:Addr)).map (·.add (0*s)))=some ⟨b,off*s,none⟩:=by
     split
     ·rfl
     ·simp [Addr.add]
    rw [e9,Nat.sub_zero];exact .rowc id s off h b n _ hid rfl
   ·exact .undef _
  ·exact .undef _
 simp only [execOp,hop,Sem.run_bind,Option.map_some,za9 ht,Instr.slice,ze ht,Result.andThen_ok,e1,hb,zO hs,Sem.run_pure]
theorem zoG (hE:ERel (Imm S base φ H w) φ w env a) {X:Operand} {x:Opnd} {t e:TypeId} {c:Call} (hx:zu X=some x) (hu:P.underlying t=some (.slice e)) (hop:o.op=.call c) (hc:c.callee=.builtin .cap)
  (h1:c.args.toList=[X]) (h2:c.argTypes.toList=[t]) (e1:x.eval env=.pure .nils) :
  Ran C S base φ H w (.val (.pure (.int .i64 0))) ((execOp a.eval o).run P w):=by
 have ha:c.args=#[X]:=by rw [<- h1]
 have hb:c.argTypes=#[t]:=by rw [<- h2]
 have hv:=zw hE hx;rw [e1] at hv
 refine zN (v:=.int .i64 0) ?_ (.pure _ _ (.int _ _))
 simp [execOp,hop,resolve,hc,invoke,builtin,Builtin.cap_,ha,hb,ze hu,goInt,hv.pure_inv.nils_inv]
end
end Go.Proofs.Ytleggocccaeemaa.Vm

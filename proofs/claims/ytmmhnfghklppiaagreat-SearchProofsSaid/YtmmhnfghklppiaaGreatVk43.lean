/- law3.bent: a changed tree. -/
import Derived.Test.YtmmhnfghklppiaaGreatVk8
import Derived.Test.YtmmhnfghklppiaaGreatVk19
import Derived.Test.YtmmhnfghklppiaaGreatVk24
namespace Go.Proofs.YtmmhnfghklppiaaGreat.Vm
open Go
set_option linter.unusedSimpArgs false
set_option linter.unusedVariables false
set_option maxHeartbeats 4000000
set_option maxRecDepth 4000
def Vr (sz:Nat) (v:AV) (hi mx:AV):Option Eff:=match Nw v with
 | some len=>match (match mx with|.pure (.int _ i)=>xP i len|_=>none) with
  | some m=>match (match hi with|.pure (.int _ i)=>xP i m|_=>none) with
   | some h=>some (.val (Eh sz none h m v))
   | none=>none
  | none=>none
 | none=>none
theorem zjB {cl:Callee} {env:Env} {H:Heap} (sz:Nat) (x hi mx:aa):step cl env H (.slice3 sz x none hi mx)=Vr sz (x.eval env) (hi.eval env) (mx.eval env):=by
 simp only [step,Vr,bound];rfl
theorem znM {sz id off n k:Nat} (hk:k<=n):Vr sz (.row id sz off n) (.pure (.int .i64 k)) (.pure (.int .i64 k))=some (.val (.jI id sz off k)):=by
 have h1:xP (k:Int) n=some k:=by unfold xP;rw [if_pos ⟨by omega,by omega⟩,Int.toNat_natCast]
 have h2:xP (k:Int) k=some k:=by unfold xP;rw [if_pos ⟨by omega,by omega⟩,Int.toNat_natCast]
 simp only [Vr,Nw,h1,h2,Eh];simp
section
variable {α:Type} {f:α->List PV} {sz:Nat} {H:Heap} {l:List α}
theorem zqc {k n id:Nat} {p:PV} (h:FrzK H false (n+1) (.row id sz 0 k) p):FrzK H false (n+1) (.jI id sz 0 k) p:=by
 obtain ⟨ids,h⟩:=h;exact ⟨ids,by simpa only [freeze] using h⟩
theorem zrj {id k n:Nat} (hf:∀ a,(f a).length=sz) (hg:H.get id=.cells true (zm f l)) (hk:k<=l.length):FrzK H false (n+2) (.row id sz 0 k) ((Sl.mk false (l.take k)).pv f sz):=by
 have hl:(l.take k).length=k:=by rw [List.length_take];omega
 have:=uy.frz (k:=false) (n:=n) hf (l:=l.take k) (v:=.row id sz 0 k) ⟨id,zm f (l.drop k),by rw [hl],by rw [hg,<- BM,List.take_append_drop]⟩;exact this
theorem zgU {bytes id k:Nat} {b:AV} {m:List α} {K:AV->Heap->Prop} {u} (hf:∀ a,(f a).length=sz) (bu:∀ a,(f a).all PV.one=true) (hg:H.get id=.cells true (zm f l)) (hk:k<=l.length)
  (hb:zH H sz b=some (zm f m,m.length)) (hm:(k+m.length)*sz<=zl/\(k+m.length)*bytes<=zl)
  (hK:∀ v' H',FrzK H' false 12 v' ((Sl.mk false (l.take k++m)).pv f sz)->K v' H'):wpE 0 (zk H sz bytes (.jI id sz 0 k) b) H K u:=by
 have ho:=QA bu m;have hlen:=xX hf l
 by_cases h0:m.length=0
 .have hl:m=[]:=List.eq_nil_of_length_eq_zero h0;subst hl;have:zk H sz bytes (.jI id sz 0 k) b=some (.val (.jI id sz 0 k)):=by
   simp only [zk,hb,ho];simp
  rw [this,Qq]
  refine hK _ _ ?_
  rw [List.append_nil];exact zqc (zrj hf hg hk)
 .have hle:k*sz<=(zm f l).length:=by rw [hlen];exact Nat.mul_le_mul_right _ hk
  have:zk H sz bytes (.jI id sz 0 k) b=some (.new (.cells true (zm f (l.take k)++zm f m)) fun id'=>.row id' sz 0 (k+m.length)):=by
   simp only [zk,hb,ho,hg];simp only [Bool.not_true,Bool.false_eq_true,if_false,if_true];rw [if_neg h0,if_pos ⟨by rw [Nat.zero_mul,Nat.zero_add];exact hle,hm⟩,Nat.zero_mul,List.drop_zero,XU hf]
  rw [this,Og]
  refine hK _ _ ?_
  refine xY (n:=10) hf (by rw [Ai,<- BM]) ?_
  rw [List.length_append,List.length_take];omega
end
structure lL where
 what:Int
 at_:Int
 Ta:Int
 node:Node
 deriving Inhabited
@[simp] def lL.cells (s:lL):List PV:=[.int .i64 s.what,.int .i64 s.at_,.int .i64 s.Ta,.int .i64 s.node.fact,.int .i64 s.node.point,.int .i64 s.node.jd,.int .i64 s.node.at_]
@[simp] theorem lL.eta (s:lL):(⟨s.what,s.at_,s.Ta,s.node⟩:lL)=s:=rfl
def tZ (l:List Node) (x:lL):Nat:=(x.at_.tmod l.length).toNat
def Ji (l:List Node) (x:lL):List Node :=
 if x.what=0\/l.length=0\/x.at_ < 0 then l else
 if x.what=1 then l.set (tZ l x) { l[tZ l x]! with at_:=IntKind.i64.wrap (l[tZ l x]!.at_+x.Ta) } else
 if x.what=2 then l.set (tZ l x) { l[tZ l x]! with fact:=IntKind.i64.wrap (l[tZ l x]!.fact+x.Ta) } else
 if x.what=3 then l.set (tZ l x) { l[tZ l x]! with jd:=IntKind.i64.wrap (1 - l[tZ l x]!.jd) } else
 if x.what=4 then l.take (tZ l x)++l.drop (tZ l x+1) else
 if x.what=5 then l++[x.node] else
 if x.what=6 then l.set (tZ l x) x.node else
 if x.what=7 then l.set (tZ l x) { l[tZ l x]! with point:=IntKind.i64.wrap (l[tZ l x]!.point+x.Ta) } else l
theorem zqn (l:List Node) (x:lL):(Ji l x).length<=l.length+1:=by
 unfold Ji;(repeat' split)<;>simp<;>omega
theorem zrn {l:List Node} {i:Nat} (h:i < l.length) (v:Int):rQ (.cells true (zm Node.cells l)) 1 (i*4) [.pure (.int .i64 v)]=some (.cells true (zm Node.cells (l.set i { l[i] with fact:=v }))) :=
 J2 (off:=0) (f:=Node.cells) (sz:=4) (vs:=[.int .i64 v]) (b:={ l[i] with fact:=v }) (fun _=>rfl) rfl (by decide) h (by decide) rfl rfl
theorem zpM {l:List Node} {i:Nat} (h:i < l.length) (v:Int):rQ (.cells true (zm Node.cells l)) 1 (i*4+1) [.pure (.int .i64 v)]=some (.cells true (zm Node.cells (l.set i { l[i] with point:=v }))) :=
 J2 (off:=1) (f:=Node.cells) (sz:=4) (vs:=[.int .i64 v]) (b:={ l[i] with point:=v }) (fun _=>rfl) rfl (by decide) h (by decide) rfl rfl
theorem zqx {l:List Node} {i:Nat} (h:i < l.length) (v:Int):rQ (.cells true (zm Node.cells l)) 1 (i*4+2) [.pure (.int .i64 v)]=some (.cells true (zm Node.cells (l.set i { l[i] with jd:=v }))) :=
 J2 (off:=2) (f:=Node.cells) (sz:=4) (vs:=[.int .i64 v]) (b:={ l[i] with jd:=v }) (fun _=>rfl) rfl (by decide) h (by decide) rfl rfl
theorem zp6 {l:List Node} {i:Nat} (h:i < l.length) (v:Int):rQ (.cells true (zm Node.cells l)) 1 (i*4+3) [.pure (.int .i64 v)]=some (.cells true (zm Node.cells (l.set i { l[i] with at_:=v }))) :=
 J2 (off:=3) (f:=Node.cells) (sz:=4) (vs:=[.int .i64 v]) (b:={ l[i] with at_:=v }) (fun _=>rfl) rfl (by decide) h (by decide) rfl rfl
theorem zpw {l:List Node} {id k:Nat} {H:Heap} (hg:H.get id=.cells true (zm Node.cells l)) (hk:k<=l.length):zH H 4 (.row id 4 k (l.length - k))=some (zm Node.cells (l.drop k),(l.drop k).length):=by
 have hl:=xX (f:=Node.cells) (sz:=4) (fun _=>rfl) l;have hd:=XV (f:=Node.cells) (sz:=4) (fun _=>rfl) l k;rw [XN,hg];simp only [Oh];rw [if_pos (by omega),hd,List.length_drop,List.take_of_length_le (by rw [xX (sz:=4) (fun _=>rfl),List.length_drop];exact Nat.le_refl _)]
theorem zlw {bytes sz id:Nat} {b:AV} {H:Heap} (hb:zH H sz b=some ([],0)) (hg:H.get id=.cells true []):zk H sz bytes (.row id sz 0 0) b=some (.upd (.row id sz 0 0) (H.set id (.cells true []))):=by
 simp only [zk,hb,hg];simp
theorem sh20:G.shared 20=false:=by decide
theorem e20 (n:Nat) (l:Sl Node) (x:lL) (hl:l.xs.length<=200000000000):zF G (n+1) 20 [l.pv Node.cells 4,.agg x.cells]=some ((Sl.mk false (Ji l.xs x)).pv Node.cells 4):=by
 refine zx (zw _) rfl g20 rfl ?_
 have ED:=Hide.mk fun H=>LQ (H:=H) (f:=Node.cells) (sz:=4) (fun _=>rfl) l;obtain ⟨xw,xa,xb,⟨y0,y1,y2,y3⟩⟩:=x;obtain ⟨R,hR⟩:∃ R,Ji l.xs ⟨xw,xa,xb,⟨y0,y1,y2,y3⟩⟩=R:=⟨_,rfl⟩
 rw [hR];have Ns:=Hide.mk hR;clear hR
 by_cases he:l.xs.length=0
 .have yL:l.xs=[]:=List.eq_nil_of_length_eq_zero he;have Dq:R=[]:=by rw [<- Ns.h,yL];unfold Ji;simp
  have Oo:=Hide.mk fun (H:Heap) (hg:H.get 0=.cells true [])=>zlw (bytes:=32) (id:=0) (b:=.pure (l.pv Node.cells 4)) (by rw [ED.h H,yL];rfl) hg;subst Dq;clear Ns ED;(repeat' first|simp [*,za,c20,lL.cells,Node.cells]|(apply zb<;>intro _ h<;>try simp [-Nat.le_zero_eq] at h));rw [Oo.h _ (by simp)];clear Oo;(repeat' first|simp [*,za]|(apply zb<;>intro _ h<;>try simp [-Nat.le_zero_eq] at h))
  all_goals exact xY (n:=10) (f:=Node.cells) (l:=[]) (fun _=>rfl) (by simp [Om]) rfl
 have hk:tZ l.xs ⟨xw,xa,xb,⟨y0,y1,y2,y3⟩⟩ < l.xs.length\/xa < 0:=by
  by_cases h:xa < 0
  .exact .inr h
  .left;unfold tZ;simp only;rw [Int.tmod_eq_emod_of_nonneg (by omega)];have h1:=Int.emod_lt_of_pos xa (b:=(l.xs.length:Int)) (by omega);have h2:=Int.emod_nonneg xa (b:=(l.xs.length:Int)) (by omega);omega
 (repeat' first|simp [*,za,c20,lL.cells,Node.cells]|(apply zb<;>intro _ h<;>try simp [-Nat.le_zero_eq] at h))
 refine QC (f:=Node.cells) (l:=[]) (m:=l.xs) (.inr ⟨0,rfl,by simp [Om]⟩) (fun _=>rfl) (by decide) (fun _=>rfl) (ED.h _) (by simp [zl];omega) ?_
 intro v3 H3 LG C8 Tc Td;rw [List.nil_append] at LG;obtain ⟨id,rfl,hg⟩:=LG.row (by intro g;rw [g] at he;simp at he);have aj:=zu hg;clear ED LG C8 Tc Td;have Dq:xw=0\/xa < 0->R=l.xs:=fun h=>by rw [<- Ns.h];unfold Ji;rw [if_pos (by simp only;omega)]
 have aY:=Hide.mk fun (H:Heap) (L:List Node) (hl:L.length=l.xs.length) (hg:H.get id=.cells true (zm Node.cells L))=>xY (n:=10) (f:=Node.cells) (sz:=4) (fun _=>rfl) hg hl;have heI:¬ (l.xs.length:Int)=0:=by omega
 by_cases h0:xw=0
 .have nJ:=Dq (.inl h0);subst h0 nJ;clear Dq Ns hk;(repeat' first|simp [*,za]|(apply zb<;>intro _ h<;>try simp [-Nat.le_zero_eq] at h));exact aY.h _ _ rfl hg
 by_cases h1:xa < 0
 .have nJ:=Dq (.inr h1);subst nJ;clear Dq Ns hk;(repeat' first|simp [*,za]|(apply zb<;>intro _ h<;>try simp [-Nat.le_zero_eq] at h));exact aY.h _ _ rfl hg
 have EH:tZ l.xs ⟨xw,xa,xb,⟨y0,y1,y2,y3⟩⟩ < l.xs.length:=by omega
 have hkr:xa.tmod l.xs.length=(tZ l.xs ⟨xw,xa,xb,⟨y0,y1,y2,y3⟩⟩:Int):=by
  unfold tZ;simp only;rw [Int.tmod_eq_emod_of_nonneg (by omega)];have h2:=Int.emod_nonneg xa (b:=(l.xs.length:Int)) (by omega);omega
 have hR:R=Ji l.xs ⟨xw,xa,xb,⟨y0,y1,y2,y3⟩⟩:=Ns.h.symm;unfold Ji at hR;rw [if_neg (by simp only;omega)] at hR;simp only at hR;generalize tZ l.xs ⟨xw,xa,xb,⟨y0,y1,y2,y3⟩⟩=k at *;have Fh:l.xs[k]! = l.xs[k]:=getElem!_pos l.xs k EH;rw [Fh] at hR;have lT:∀ (L:List Node),L.length=l.xs.length->FrzK (H3.set id (.cells true (zm Node.cells L))) false (10+2) (.row id 4 0 l.xs.length) ((Sl.mk false L).pv Node.cells 4):=fun L hL=>aY.h _ L hL (zo aj);have lT:=Hide.mk lT;have fe:Qy (H3.get id)=true:=by rw [hg];rfl
 clear Dq Ns hk Fh
 by_cases w1:xw=1
 .subst w1;rw [if_pos rfl] at hR;subst hR;have p:=zp6 EH (IntKind.i64.wrap (l.xs[k].at_+xb));(repeat' first|simp [*,za]|(apply zb<;>intro _ h<;>try simp [-Nat.le_zero_eq] at h));exact lT.h _ (by simp)
 by_cases w2:xw=2
 .subst w2;rw [if_neg (by decide),if_pos rfl] at hR;subst hR;have p:=zrn EH (IntKind.i64.wrap (l.xs[k].fact+xb));(repeat' first|simp [*,za]|(apply zb<;>intro _ h<;>try simp [-Nat.le_zero_eq] at h));exact lT.h _ (by simp)
 by_cases w3:xw=3
 .subst w3;rw [if_neg (by decide),if_neg (by decide),if_pos rfl] at hR;subst hR;have p:=zqx EH (IntKind.i64.wrap (1 - l.xs[k].jd));(repeat' first|simp [*,za]|(apply zb<;>intro _ h<;>try simp [-Nat.le_zero_eq] at h));exact lT.h _ (by simp)
 by_cases w4:xw=4
 .subst w4;rw [if_neg (by decide),if_neg (by decide),if_neg (by decide),if_pos rfl] at hR;subst hR;have wk:IntKind.i64.wrap ((k:Int)+1)=(k+1:Nat):=by rw [wrap64 (by omega) (by omega)];omega
  have qg:k+1<=l.xs.length:=by omega
  have s3:=znM (sz:=4) (id:=id) (off:=0) (n:=l.xs.length) (k:=k) (by omega);have sl:=ziK (H:=H3) (sz:=4) (id:=id) (off:=0) (len:=l.xs.length) (i:=k+1) (k:=.i64) fe qg;rw [show ((k+1:Nat):Int)=(k:Int)+1 by omega,Nat.zero_add] at sl
  by_cases e:l.xs.length=k+1
  .rw [if_pos ⟨by omega,e⟩] at sl;have hd:l.xs.drop (k+1)=[]:=List.drop_eq_nil_of_le (by omega);rw [hd,List.append_nil];have ha:=fun (K:AV->Heap->Prop) u (hK)=>zgU (bytes:=32) (id:=id) (H:=H3) (K:=K) (u:=u) (f:=Node.cells) (sz:=4) (l:=l.xs) (k:=k) (m:=[]) (b:=.pure (.slice false 4 [])) (fun _=>rfl) (fun _=>rfl) hg (by omega) rfl (by simp [zl];omega) hK;rw [List.append_nil] at ha;have ha:=Hide.mk ha;have eH:=Hide.mk e;clear hd e;(repeat' first|simp [*,za,zjB]|(apply zb<;>intro _ h<;>try simp [-Nat.le_zero_eq] at h))
   refine ha.h _ _ ?_
   intro v4 H4 oz;(repeat' first|simp [*,za]|(apply zb<;>intro _ h<;>try simp [-Nat.le_zero_eq] at h));exact oz
  .rw [if_neg (fun h=>e h.2)] at sl;have ha:=fun (K:AV->Heap->Prop) u (hK)=>zgU (bytes:=32) (id:=id) (H:=H3) (K:=K) (u:=u) (f:=Node.cells) (sz:=4) (l:=l.xs) (k:=k) (m:=l.xs.drop (k+1)) (b:=.row id 4 (k+1) (l.xs.length - (k+1))) (fun _=>rfl) (fun _=>rfl) hg (by omega) (zpw hg qg) (by simp [zl];omega) hK;have ha:=Hide.mk ha;(repeat' first|simp [*,za,zjB]|(apply zb<;>intro _ h<;>try simp [-Nat.le_zero_eq] at h))
   refine ha.h _ _ ?_
   intro v4 H4 oz;(repeat' first|simp [*,za]|(apply zb<;>intro _ h<;>try simp [-Nat.le_zero_eq] at h));exact oz
 by_cases w5:xw=5
 .subst w5;rw [if_neg (by decide),if_neg (by decide),if_neg (by decide),if_neg (by decide),if_pos rfl] at hR;subst hR;(repeat' first|simp [*,za]|(apply zb<;>intro _ h<;>try simp [-Nat.le_zero_eq] at h))
  refine QC (f:=Node.cells) (sz:=4) (l:=l.xs) (m:=[⟨y0,y1,y2,y3⟩]) (.inr ⟨id,rfl,by rw [ze aj];exact hg⟩) (fun _=>rfl) (by decide) (fun _=>rfl) ?_ (by simp [zl];omega) ?_
  .rw [XN,Ai];simp [Oh,zm]
  intro v4 H4 ho4 _ _ _;obtain ⟨WE,rfl,rR⟩:=ho4.row (by simp);have hr:=xY (n:=10) (f:=Node.cells) (sz:=4) (m:=(l.xs++[(⟨y0,y1,y2,y3⟩:Node)]).length) (fun _=>rfl) rR rfl;have hr:=Hide.mk hr;clear ho4 rR;generalize (l.xs++[(⟨y0,y1,y2,y3⟩:Node)])=L2 at *;(repeat' first|simp [*,za]|(apply zb<;>intro _ h<;>try simp [-Nat.le_zero_eq] at h));exact hr.h
 by_cases w6:xw=6
 .subst w6;rw [if_neg (by decide),if_neg (by decide),if_neg (by decide),if_neg (by decide),if_neg (by decide),if_pos rfl] at hR;subst hR;(repeat' first|simp [*,za]|(apply zb<;>intro _ h<;>try simp [-Nat.le_zero_eq] at h));exact lT.h _ (by simp)
 by_cases w7:xw=7
 .subst w7;rw [if_neg (by decide),if_neg (by decide),if_neg (by decide),if_neg (by decide),if_neg (by decide),if_neg (by decide),if_pos rfl] at hR;subst hR;have p:=zpM EH (IntKind.i64.wrap (l.xs[k].point+xb));(repeat' first|simp [*,za]|(apply zb<;>intro _ h<;>try simp [-Nat.le_zero_eq] at h));exact lT.h _ (by simp)
 rw [if_neg w1,if_neg w2,if_neg w3,if_neg w4,if_neg w5,if_neg w6,if_neg w7] at hR;subst hR;(repeat' first|simp [*,za]|(apply zb<;>intro _ h<;>try simp [-Nat.le_zero_eq] at h));exact aY.h _ _ rfl hg
end Go.Proofs.YtmmhnfghklppiaaGreat.Vm

/- law3.bent: a changed tree. -/
import Derived.Test.YtmmhnfghklppiaaGreatWk8
import Derived.Test.YtmmhnfghklppiaaGreatWk19
import Derived.Test.YtmmhnfghklppiaaGreatWk24
namespace Go.Proofs.YtmmhnfghklppiaaGreat.Vm
open Go
set_option linter.unusedSimpArgs false
set_option linter.unusedVariables false
set_option maxHeartbeats 4000000
set_option maxRecDepth 4000
def XQ (sz:Nat) (v:AV) (hi mx:AV):Option Eff:=match Qa v with
 | some len=>match (match mx with|.pure (.int _ i)=>Bq i len|_=>none) with
  | some m=>match (match hi with|.pure (.int _ i)=>Bq i m|_=>none) with
   | some h=>some (.val (Gy sz none h m v))
   | none=>none
  | none=>none
 | none=>none
theorem zjI {cl:Callee} {env:Env} {H:Heap} (sz:Nat) (x hi mx:aa):step cl env H (.slice3 sz x none hi mx)=XQ sz (x.eval env) (hi.eval env) (mx.eval env):=by
 simp only [step,XQ,bound];rfl
theorem znN {sz id off n k:Nat} (hk:k<=n):XQ sz (.row id sz off n) (.pure (.int .i64 k)) (.pure (.int .i64 k))=some (.val (.lS id sz off k)):=by
 have h1:Bq (k:Int) n=some k:=by unfold Bq;rw [if_pos ⟨by omega,by omega⟩,Int.toNat_natCast]
 have h2:Bq (k:Int) k=some k:=by unfold Bq;rw [if_pos ⟨by omega,by omega⟩,Int.toNat_natCast]
 simp only [XQ,Qa,h1,h2,Gy];simp
section
variable {α:Type} {f:α->List PV} {sz:Nat} {H:Heap} {l:List α}
theorem zr4 {k n id:Nat} {p:PV} (h:FrzK H false (n+1) (.row id sz 0 k) p):FrzK H false (n+1) (.lS id sz 0 k) p:=by
 obtain ⟨ids,h⟩:=h;exact ⟨ids,by simpa only [freeze] using h⟩
theorem zrY {id k n:Nat} (hf:∀ a,(f a).length=sz) (hg:H.get id=.cells true (zq f l)) (hk:k<=l.length):FrzK H false (n+2) (.row id sz 0 k) ((Sl.mk false (l.take k)).pv f sz):=by
 have hl:(l.take k).length=k:=by rw [List.length_take];omega
 have:=wZ.frz (k:=false) (n:=n) hf (l:=l.take k) (v:=.row id sz 0 k) ⟨id,zq f (l.drop k),by rw [hl],by rw [hg,<- Ep,List.take_append_drop]⟩;exact this
theorem zhv {bytes id k:Nat} {b:AV} {m:List α} {K:AV->Heap->Prop} {u} (hf:∀ a,(f a).length=sz) (bG:∀ a,(f a).all PV.one=true) (hg:H.get id=.cells true (zq f l)) (hk:k<=l.length)
  (hb:zO H sz b=some (zq f m,m.length)) (hm:(k+m.length)*sz<=zo/\(k+m.length)*bytes<=zo)
  (hK:∀ v' H',FrzK H' false 12 v' ((Sl.mk false (l.take k++m)).pv f sz)->K v' H'):wpE 0 (zm H sz bytes (.lS id sz 0 k) b) H K u:=by
 have ho:=Tv bG m;have hlen:=BB hf l
 by_cases h0:m.length=0
 .have hl:m=[]:=List.eq_nil_of_length_eq_zero h0;subst hl;have:zm H sz bytes (.lS id sz 0 k) b=some (.val (.lS id sz 0 k)):=by
   simp only [zm,hb,ho];simp
  rw [this,Ta]
  refine hK _ _ ?_
  rw [List.append_nil];exact zr4 (zrY hf hg hk)
 .have hle:k*sz<=(zq f l).length:=by rw [hlen];exact Nat.mul_le_mul_right _ hk
  have:zm H sz bytes (.lS id sz 0 k) b=some (.new (.cells true (zq f (l.take k)++zq f m)) fun id'=>.row id' sz 0 (k+m.length)):=by
   simp only [zm,hb,ho,hg];simp only [Bool.not_true,Bool.false_eq_true,if_false,if_true];rw [if_neg h0,if_pos ⟨by rw [Nat.zero_mul,Nat.zero_add];exact hle,hm⟩,Nat.zero_mul,List.drop_zero,ZW hf]
  rw [this,QB]
  refine hK _ _ ?_
  refine sO (n:=10) hf (by rw [CQ,<- Ep]) ?_
  rw [List.length_append,List.length_take];omega
end
structure bQ where
 what:Int
 at_:Int
 yt:Int
 node:Node
 deriving Inhabited
@[simp] def bQ.cells (s:bQ):List PV:=[.int .i64 s.what,.int .i64 s.at_,.int .i64 s.yt,.int .i64 s.node.fact,.int .i64 s.node.point,.int .i64 s.node.jT,.int .i64 s.node.at_]
@[simp] theorem bQ.eta (s:bQ):(⟨s.what,s.at_,s.yt,s.node⟩:bQ)=s:=rfl
def wM (l:List Node) (x:bQ):Nat:=(x.at_.tmod l.length).toNat
def FY (l:List Node) (x:bQ):List Node :=
 if x.what=0\/l.length=0\/x.at_ < 0 then l else
 if x.what=1 then l.set (wM l x) { l[wM l x]! with at_:=IntKind.i64.wrap (l[wM l x]!.at_+x.yt) } else
 if x.what=2 then l.set (wM l x) { l[wM l x]! with fact:=IntKind.i64.wrap (l[wM l x]!.fact+x.yt) } else
 if x.what=3 then l.set (wM l x) { l[wM l x]! with jT:=IntKind.i64.wrap (1 - l[wM l x]!.jT) } else
 if x.what=4 then l.take (wM l x)++l.drop (wM l x+1) else
 if x.what=5 then l++[x.node] else
 if x.what=6 then l.set (wM l x) x.node else
 if x.what=7 then l.set (wM l x) { l[wM l x]! with point:=IntKind.i64.wrap (l[wM l x]!.point+x.yt) } else l
theorem zmE (l:List Node) (x:bQ):(FY l x).length<=l.length+1:=by
 unfold FY;(repeat' split)<;>simp<;>omega
theorem zra {l:List Node} {i:Nat} (h:i < l.length) (v:Int):uQ (.cells true (zq Node.cells l)) 1 (i*4) [.pure (.int .i64 v)]=some (.cells true (zq Node.cells (l.set i { l[i] with fact:=v }))) :=
 MR (off:=0) (f:=Node.cells) (sz:=4) (vs:=[.int .i64 v]) (b:={ l[i] with fact:=v }) (fun _=>rfl) rfl (by decide) h (by decide) rfl rfl
theorem zq7 {l:List Node} {i:Nat} (h:i < l.length) (v:Int):uQ (.cells true (zq Node.cells l)) 1 (i*4+1) [.pure (.int .i64 v)]=some (.cells true (zq Node.cells (l.set i { l[i] with point:=v }))) :=
 MR (off:=1) (f:=Node.cells) (sz:=4) (vs:=[.int .i64 v]) (b:={ l[i] with point:=v }) (fun _=>rfl) rfl (by decide) h (by decide) rfl rfl
theorem zrd {l:List Node} {i:Nat} (h:i < l.length) (v:Int):uQ (.cells true (zq Node.cells l)) 1 (i*4+2) [.pure (.int .i64 v)]=some (.cells true (zq Node.cells (l.set i { l[i] with jT:=v }))) :=
 MR (off:=2) (f:=Node.cells) (sz:=4) (vs:=[.int .i64 v]) (b:={ l[i] with jT:=v }) (fun _=>rfl) rfl (by decide) h (by decide) rfl rfl
theorem zrM {l:List Node} {i:Nat} (h:i < l.length) (v:Int):uQ (.cells true (zq Node.cells l)) 1 (i*4+3) [.pure (.int .i64 v)]=some (.cells true (zq Node.cells (l.set i { l[i] with at_:=v }))) :=
 MR (off:=3) (f:=Node.cells) (sz:=4) (vs:=[.int .i64 v]) (b:={ l[i] with at_:=v }) (fun _=>rfl) rfl (by decide) h (by decide) rfl rfl
theorem zpD {l:List Node} {id k:Nat} {H:Heap} (hg:H.get id=.cells true (zq Node.cells l)) (hk:k<=l.length):zO H 4 (.row id 4 k (l.length - k))=some (zq Node.cells (l.drop k),(l.drop k).length):=by
 have hl:=BB (f:=Node.cells) (sz:=4) (fun _=>rfl) l;have hd:=ZX (f:=Node.cells) (sz:=4) (fun _=>rfl) l k;rw [ZP,hg];simp only [QC];rw [if_pos (by omega),hd,List.length_drop,List.take_of_length_le (by rw [BB (sz:=4) (fun _=>rfl),List.length_drop];exact Nat.le_refl _)]
theorem zms {bytes sz id:Nat} {b:AV} {H:Heap} (hb:zO H sz b=some ([],0)) (hg:H.get id=.cells true []):zm H sz bytes (.row id sz 0 0) b=some (.upd (.row id sz 0 0) (H.set id (.cells true []))):=by
 simp only [zm,hb,hg];simp
theorem sh20:G.shared 20=false:=by decide
theorem e20 (n:Nat) (l:Sl Node) (x:bQ) (hl:l.xs.length<=200000000000):zK G (n+1) 20 [l.pv Node.cells 4,.agg x.cells]=some ((Sl.mk false (FY l.xs x)).pv Node.cells 4):=by
 refine zz (zy _) rfl g20 rfl ?_
 have GZ:=Hide.mk fun H=>Kr (H:=H) (f:=Node.cells) (sz:=4) (fun _=>rfl) l;obtain ⟨xw,xa,xb,⟨y0,y1,y2,y3⟩⟩:=x;obtain ⟨R,hR⟩:∃ R,FY l.xs ⟨xw,xa,xb,⟨y0,y1,y2,y3⟩⟩=R:=⟨_,rfl⟩
 rw [hR];have II:=Hide.mk hR;clear hR
 by_cases he:l.xs.length=0
 .have Cb:l.xs=[]:=List.eq_nil_of_length_eq_zero he;have FQ:R=[]:=by rw [<- II.h,Cb];unfold FY;simp
  have QH:=Hide.mk fun (H:Heap) (hg:H.get 0=.cells true [])=>zms (bytes:=32) (id:=0) (b:=.pure (l.pv Node.cells 4)) (by rw [GZ.h H,Cb];rfl) hg;subst FQ;clear II GZ;(repeat' first|simp [*,zb,c20,bQ.cells,Node.cells]|(apply za<;>intro _ h<;>try simp [-Nat.le_zero_eq] at h));rw [QH.h _ (by simp)];clear QH;(repeat' first|simp [*,zb]|(apply za<;>intro _ h<;>try simp [-Nat.le_zero_eq] at h))
  all_goals exact sO (n:=10) (f:=Node.cells) (l:=[]) (fun _=>rfl) (by simp [QG]) rfl
 have hk:wM l.xs ⟨xw,xa,xb,⟨y0,y1,y2,y3⟩⟩ < l.xs.length\/xa < 0:=by
  by_cases h:xa < 0
  .exact .inr h
  .left;unfold wM;simp only;rw [Int.tmod_eq_emod_of_nonneg (by omega)];have h1:=Int.emod_lt_of_pos xa (b:=(l.xs.length:Int)) (by omega);have h2:=Int.emod_nonneg xa (b:=(l.xs.length:Int)) (by omega);omega
 (repeat' first|simp [*,zb,c20,bQ.cells,Node.cells]|(apply za<;>intro _ h<;>try simp [-Nat.le_zero_eq] at h))
 refine Z0 (f:=Node.cells) (l:=[]) (m:=l.xs) (.inr ⟨0,rfl,by simp [QG]⟩) (fun _=>rfl) (by decide) (fun _=>rfl) (GZ.h _) (by simp [zo];omega) ?_
 intro v3 H3 Ov Fh VA VB;rw [List.nil_append] at Ov;obtain ⟨id,rfl,hg⟩:=Ov.row (by intro g;rw [g] at he;simp at he);have au:=zx hg;clear GZ Ov Fh VA VB;have FQ:xw=0\/xa < 0->R=l.xs:=fun h=>by rw [<- II.h];unfold FY;rw [if_pos (by simp only;omega)]
 have bA:=Hide.mk fun (H:Heap) (L:List Node) (hl:L.length=l.xs.length) (hg:H.get id=.cells true (zq Node.cells L))=>sO (n:=10) (f:=Node.cells) (sz:=4) (fun _=>rfl) hg hl;have heI:¬ (l.xs.length:Int)=0:=by omega
 by_cases h0:xw=0
 .have mg:=FQ (.inl h0);subst h0 mg;clear FQ II hk;(repeat' first|simp [*,zb]|(apply za<;>intro _ h<;>try simp [-Nat.le_zero_eq] at h));exact bA.h _ _ rfl hg
 by_cases h1:xa < 0
 .have mg:=FQ (.inr h1);subst mg;clear FQ II hk;(repeat' first|simp [*,zb]|(apply za<;>intro _ h<;>try simp [-Nat.le_zero_eq] at h));exact bA.h _ _ rfl hg
 have G7:wM l.xs ⟨xw,xa,xb,⟨y0,y1,y2,y3⟩⟩ < l.xs.length:=by omega
 have hkr:xa.tmod l.xs.length=(wM l.xs ⟨xw,xa,xb,⟨y0,y1,y2,y3⟩⟩:Int):=by
  unfold wM;simp only;rw [Int.tmod_eq_emod_of_nonneg (by omega)];have h2:=Int.emod_nonneg xa (b:=(l.xs.length:Int)) (by omega);omega
 have hR:R=FY l.xs ⟨xw,xa,xb,⟨y0,y1,y2,y3⟩⟩:=II.h.symm;unfold FY at hR;rw [if_neg (by simp only;omega)] at hR;simp only at hR;generalize wM l.xs ⟨xw,xa,xb,⟨y0,y1,y2,y3⟩⟩=k at *;have Fg:l.xs[k]! = l.xs[k]:=getElem!_pos l.xs k G7;rw [Fg] at hR;have ny:∀ (L:List Node),L.length=l.xs.length->FrzK (H3.set id (.cells true (zq Node.cells L))) false (10+2) (.row id 4 0 l.xs.length) ((Sl.mk false L).pv Node.cells 4):=fun L hL=>bA.h _ L hL (zn au);have ny:=Hide.mk ny;have fJ:Tq (H3.get id)=true:=by rw [hg];rfl
 clear FQ II hk Fg
 by_cases w1:xw=1
 .subst w1;rw [if_pos rfl] at hR;subst hR;have p:=zrM G7 (IntKind.i64.wrap (l.xs[k].at_+xb));(repeat' first|simp [*,zb]|(apply za<;>intro _ h<;>try simp [-Nat.le_zero_eq] at h));exact ny.h _ (by simp)
 by_cases w2:xw=2
 .subst w2;rw [if_neg (by decide),if_pos rfl] at hR;subst hR;have p:=zra G7 (IntKind.i64.wrap (l.xs[k].fact+xb));(repeat' first|simp [*,zb]|(apply za<;>intro _ h<;>try simp [-Nat.le_zero_eq] at h));exact ny.h _ (by simp)
 by_cases w3:xw=3
 .subst w3;rw [if_neg (by decide),if_neg (by decide),if_pos rfl] at hR;subst hR;have p:=zrd G7 (IntKind.i64.wrap (1 - l.xs[k].jT));(repeat' first|simp [*,zb]|(apply za<;>intro _ h<;>try simp [-Nat.le_zero_eq] at h));exact ny.h _ (by simp)
 by_cases w4:xw=4
 .subst w4;rw [if_neg (by decide),if_neg (by decide),if_neg (by decide),if_pos rfl] at hR;subst hR;have wk:IntKind.i64.wrap ((k:Int)+1)=(k+1:Nat):=by rw [wrap64 (by omega) (by omega)];omega
  have sj:k+1<=l.xs.length:=by omega
  have s3:=znN (sz:=4) (id:=id) (off:=0) (n:=l.xs.length) (k:=k) (by omega);have sl:=zju (H:=H3) (sz:=4) (id:=id) (off:=0) (len:=l.xs.length) (i:=k+1) (k:=.i64) fJ sj;rw [show ((k+1:Nat):Int)=(k:Int)+1 by omega,Nat.zero_add] at sl
  by_cases e:l.xs.length=k+1
  .rw [if_pos ⟨by omega,e⟩] at sl;have hd:l.xs.drop (k+1)=[]:=List.drop_eq_nil_of_le (by omega);rw [hd,List.append_nil];have ha:=fun (K:AV->Heap->Prop) u (hK)=>zhv (bytes:=32) (id:=id) (H:=H3) (K:=K) (u:=u) (f:=Node.cells) (sz:=4) (l:=l.xs) (k:=k) (m:=[]) (b:=.pure (.slice false 4 [])) (fun _=>rfl) (fun _=>rfl) hg (by omega) rfl (by simp [zo];omega) hK;rw [List.append_nil] at ha;have ha:=Hide.mk ha;have eH:=Hide.mk e;clear hd e;(repeat' first|simp [*,zb,zjI]|(apply za<;>intro _ h<;>try simp [-Nat.le_zero_eq] at h))
   refine ha.h _ _ ?_
   intro v4 H4 qE;(repeat' first|simp [*,zb]|(apply za<;>intro _ h<;>try simp [-Nat.le_zero_eq] at h));exact qE
  .rw [if_neg (fun h=>e h.2)] at sl;have ha:=fun (K:AV->Heap->Prop) u (hK)=>zhv (bytes:=32) (id:=id) (H:=H3) (K:=K) (u:=u) (f:=Node.cells) (sz:=4) (l:=l.xs) (k:=k) (m:=l.xs.drop (k+1)) (b:=.row id 4 (k+1) (l.xs.length - (k+1))) (fun _=>rfl) (fun _=>rfl) hg (by omega) (zpD hg sj) (by simp [zo];omega) hK;have ha:=Hide.mk ha;(repeat' first|simp [*,zb,zjI]|(apply za<;>intro _ h<;>try simp [-Nat.le_zero_eq] at h))
   refine ha.h _ _ ?_
   intro v4 H4 qE;(repeat' first|simp [*,zb]|(apply za<;>intro _ h<;>try simp [-Nat.le_zero_eq] at h));exact qE
 by_cases w5:xw=5
 .subst w5;rw [if_neg (by decide),if_neg (by decide),if_neg (by decide),if_neg (by decide),if_pos rfl] at hR;subst hR;(repeat' first|simp [*,zb]|(apply za<;>intro _ h<;>try simp [-Nat.le_zero_eq] at h))
  refine Z0 (f:=Node.cells) (sz:=4) (l:=l.xs) (m:=[⟨y0,y1,y2,y3⟩]) (.inr ⟨id,rfl,by rw [zg au];exact hg⟩) (fun _=>rfl) (by decide) (fun _=>rfl) ?_ (by simp [zo];omega) ?_
  .rw [ZP,CQ];simp [QC,zq]
  intro v4 H4 ho4 _ _ _;obtain ⟨YR,rfl,uR⟩:=ho4.row (by simp);have hr:=sO (n:=10) (f:=Node.cells) (sz:=4) (m:=(l.xs++[(⟨y0,y1,y2,y3⟩:Node)]).length) (fun _=>rfl) uR rfl;have hr:=Hide.mk hr;clear ho4 uR;generalize (l.xs++[(⟨y0,y1,y2,y3⟩:Node)])=L2 at *;(repeat' first|simp [*,zb]|(apply za<;>intro _ h<;>try simp [-Nat.le_zero_eq] at h));exact hr.h
 by_cases w6:xw=6
 .subst w6;rw [if_neg (by decide),if_neg (by decide),if_neg (by decide),if_neg (by decide),if_neg (by decide),if_pos rfl] at hR;subst hR;(repeat' first|simp [*,zb]|(apply za<;>intro _ h<;>try simp [-Nat.le_zero_eq] at h));exact ny.h _ (by simp)
 by_cases w7:xw=7
 .subst w7;rw [if_neg (by decide),if_neg (by decide),if_neg (by decide),if_neg (by decide),if_neg (by decide),if_neg (by decide),if_pos rfl] at hR;subst hR;have p:=zq7 G7 (IntKind.i64.wrap (l.xs[k].point+xb));(repeat' first|simp [*,zb]|(apply za<;>intro _ h<;>try simp [-Nat.le_zero_eq] at h));exact ny.h _ (by simp)
 rw [if_neg w1,if_neg w2,if_neg w3,if_neg w4,if_neg w5,if_neg w6,if_neg w7] at hR;subst hR;(repeat' first|simp [*,zb]|(apply za<;>intro _ h<;>try simp [-Nat.le_zero_eq] at h));exact bA.h _ _ rfl hg
end Go.Proofs.YtmmhnfghklppiaaGreat.Vm

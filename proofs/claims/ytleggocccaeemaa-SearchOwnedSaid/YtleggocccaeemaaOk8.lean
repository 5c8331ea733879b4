/- Slices of one's own that grow by append. More for walks: slices as data with their things, loops that keep what they do not write, appends and calls with one's own slices. -/
import Derived.Test.YtleggocccaeemaaOk7
namespace Go.Proofs.Ytleggocccaeemaa.Vm
open Go
def zm {α:Type} (f:α->List PV) (l:List α):List AV:=(l.map fun a=>(f a).map AV.pure).flatten
def zlg (c:UInt8):List PV:=[.int .u8 c.toNat]
theorem zo8 (l:List UInt8):rowB l=zm zlg l:=by
 induction l with
 | nil=>rfl
 | cons c l ih =>
  simp only [rowB] at ih;simp [rowB,zm,zlg,ih]
theorem zax {α:Type} (f:α->List PV) (l m:List α):zm f (l++m)=zm f l++zm f m:=by simp [zm]
theorem zee {α:Type} (f:α->List PV) (a:α):zm f [a]=(f a).map .pure:=by simp [zm]
theorem zar {α:Type} {f:α->List PV} {sz:Nat} (hf:∀ a,(f a).length=sz) (l:List α):(zm f l).length=l.length*sz:=by
 induction l with
 | nil=>simp [zm]
 | cons a l ih =>
  have:zm f (a::l)=(f a).map .pure++zm f l:=by simp [zm]
  rw [this,List.length_append,ih];simp [hf,Nat.add_mul,Nat.add_comm]
def OwnV {α:Type} (f:α->List PV) (sz:Nat) (H:Heap) (v:AV) (l:List α):Prop :=
 (l=[]/\v=.pure .nils)\/∃ id,v=.row id sz 0 l.length/\H.get id=.cells true (zm f l)
section
variable {α:Type} {f:α->List PV} {sz:Nat} {H:Heap} {v:AV} {l:List α}
theorem OwnV.nil:OwnV f sz H (.pure .nils) []:=.inl ⟨rfl,rfl⟩
theorem OwnV.alloc (h:OwnV f sz H v l) (o:AObj):OwnV f sz (H.alloc o) v l:=by
 rcases h with h|⟨id,h1,h2⟩
 ·exact .inl h
 ·exact .inr ⟨id,h1,by rw [zf (zC h2)];exact h2⟩
theorem OwnV.keep {H':Heap} (h:OwnV f sz H v l) (hk:∀ id,(∃ n,v=.row id sz 0 n)->H'.get id=H.get id):OwnV f sz H' v l:=by
 rcases h with h|⟨id,h1,h2⟩
 ·exact .inl h
 ·exact .inr ⟨id,h1,by rw [hk id ⟨_,h1⟩];exact h2⟩
theorem zb9 (ps:List PV) (h:ps.all PV.one=true):(ps.map AV.pure).all AV.one=true:=by
 simp only [List.all_map,List.all_eq_true] at h ⊢;intro p hp;have:=h p hp
 cases p<;>first|rfl|simp [PV.one] at this
theorem OwnV.toStr {v:AV} {l:List UInt8} (h:OwnV zlg 1 H v l):zhg H v=some (.val (.pure (.str ⟨l.toArray⟩))):=by
 rcases h with ⟨rfl,rfl⟩|⟨id,rfl,h⟩
 ·rfl
 ·rw [zk4,h,<- zo8,ziy rfl]
end
set_option linter.unusedSimpArgs false
set_option linter.unusedVariables false
structure Hide (p:Prop):Prop where
 h:p
theorem zhB {α β:Type} {f:α->β} {xs:List α} {i:Nat} (h:i < xs.length):(xs.map f).take i++[f xs[i]]=(xs.map f).take (i+1):=by
 rw [List.take_add_one,List.getElem?_eq_getElem (by simpa using h)];simp
theorem zcN {α:Type} {xs:List α} {i:Nat} (h:i < xs.length):xs.take i++[xs[i]]=xs.take (i+1):=by
 rw [List.take_add_one,List.getElem?_eq_getElem h];simp
inductive Sl (α:Type) where
 | nil
 | mk (hot:Bool) (xs:List α)
 deriving Inhabited
section
variable {α:Type}
def Sl.xs:Sl α->List α
 | .nil=>[]
 | .mk _ xs=>xs
def Sl.hot:Sl α->Bool
 | .nil=>false
 | .mk h _=>h
def Sl.isNil:Sl α->Bool
 | .nil=>true
 | .mk _ _=>false
def Sl.pv (f:α->List PV) (sz:Nat):Sl α->PV
 | .nil=>.nils
 | .mk h xs=>.slice h sz (xs.map f)
def Sl.of:List α->Sl α
 | []=>.nil
 | a::l=>.mk false (a::l)
@[simp] theorem Sl.xs_of (l:List α):(Sl.of l).xs=l:=by cases l<;>rfl
@[simp] theorem Sl.xs_nil:(Sl.nil:Sl α).xs=[]:=rfl
@[simp] theorem Sl.xs_mk (h:Bool) (l:List α):(Sl.mk h l).xs=l:=rfl
@[simp] theorem Sl.of_nil:Sl.of ([]:List α)=.nil:=rfl
@[simp] theorem Sl.of_cons (a:α) (l:List α):Sl.of (a::l)=.mk false (a::l):=rfl
@[simp] theorem Sl.pv_nil (f:α->List PV) (sz:Nat):(Sl.nil:Sl α).pv f sz=.nils:=rfl
@[simp] theorem zrw (f:α->List PV) (sz:Nat) (s:Sl α):isNil .slice (.pure (s.pv f sz))=some s.isNil:=by cases s<;>rfl
@[simp] theorem zqQ (f:α->List PV) (sz:Nat) (s:Sl α):AV.cells (.pure (s.pv f sz))=[.pure (s.pv f sz)]:=by cases s<;>rfl
@[simp] theorem zrE (f:α->List PV) (sz:Nat) (s:Sl α):AV.one (.pure (s.pv f sz))=true:=by cases s<;>rfl
@[simp] theorem zqv (f:α->List PV) (sz:Nat) (s:Sl α):zdc (.pure (s.pv f sz))=some (.val (.pure (.int .i64 s.xs.length))):=by
 cases s<;>simp [Sl.pv,Sl.xs]
@[simp] theorem zju {k:IntKind} {n:Nat} {f:α->List PV} {sz:Nat} {s:Sl α} (h:n < s.xs.length):zcn sz (.pure (s.pv f sz)) (.pure (.int k n))=some (.val (.pure (.ptr s.hot (f s.xs[n]) 0))):=by
 cases s with
 | nil=>simp at h
 | mk hot xs =>
  simp only [Sl.xs] at h
  refine zeJ ?_
  simp [List.getElem?_eq_getElem h,Sl.xs]
theorem zhy {H:Heap} {f:α->List PV} {sz:Nat} (hf:∀ a,(f a).length=sz) (s:Sl α):zJ H sz (.pure (s.pv f sz))=some ((s.xs.map f).flatten.map .pure,s.xs.length):=by
 cases s with
 | nil=>rfl
 | mk hot xs =>
  have:(xs.map f).all (fun e=>e.length == sz)=true:=by simp [hf]
  simp only [Sl.pv,zJ,this,if_true,Sl.xs,List.length_map]
end
@[simp low] theorem zph (c:AV) (cs:List AV) (size off:Nat) (vs:List AV):zbK (.cells true (c::cs)) size off vs=if vs.length=size/\size≠0/\vs.all AV.one=true/\off+size<=(c::cs).length then some (.cells true ((c::cs).take off++vs++(c::cs).drop (off+size))) else none:=rfl
@[simp low] theorem zoD (own:Bool) (c:AV) (cs:List AV) (size off:Nat):zck (.cells own (c::cs)) size off=if off+size<=(c::cs).length then some (((c::cs).drop off).take size) else none:=rfl
@[simp] theorem zrg (k:IntKind) (n:Int):PV.one (.int k n)=true:=rfl
@[simp] theorem zqF (b:Bool):PV.one (.bool b)=true:=rfl
@[simp] theorem zq7 (b:ByteArray):PV.one (.str b)=true:=rfl
@[simp] theorem zrl (k:IntKind) (n:Int):AV.one (.pure (.int k n))=true:=rfl
@[simp] theorem zqJ (b:Bool):AV.one (.pure (.bool b))=true:=rfl
@[simp] theorem zro (b:ByteArray):AV.one (.pure (.str b))=true:=rfl
@[simp] theorem zqp:AV.one (.pure .nils)=true:=rfl
@[simp] theorem zqE:AV.one (.pure .nilp)=true:=rfl
@[simp] theorem zqm:AV.one (.pure .nilf)=true:=rfl
@[simp] theorem zqu (f:Nat) (c:List PV):AV.one (.pure (.func f c))=true:=rfl
@[simp] theorem zrp (i sz o n:Nat):AV.one (.row i sz o n)=true:=rfl
@[simp] theorem zqS (i o:Nat):AV.one (.box i o)=true:=rfl
@[simp] theorem zqf (h:Bool) (sz:Nat) (es:List (List PV)):AV.one (.pure (.slice h sz es))=true:=rfl
@[simp] theorem zf3 {H:Heap} {id:Nat} {o:AObj} (h:id=H.nx):(H.alloc o).get id=o:=by subst h;exact zaG
@[simp] theorem zos {H:Heap} {id:Nat} {o:AObj} (h:id < H.nx):(H.alloc o).get id=H.get id:=zf h
@[simp] theorem zpA {H:Heap} {id j:Nat} {o:AObj} (h:id≠j):(H.set j o).get id=H.get id:=zg h
@[simp] theorem zrb:Heap.empty.nx=0:=by simp only [Heap.empty]
def zeU (o:AObj) (sz off len:Nat):Option (List AV×Nat):=match o with
 | .cells _ cs=>if off*sz+len*sz<=cs.length then some ((cs.drop (off*sz)).take (len*sz),len) else none
 | _=>none
@[simp] theorem zgL (H:Heap) (id sz off len:Nat):zJ H sz (.row id sz off len)=zeU (H.get id) sz off len:=by
 simp only [zJ,zeU,if_true]
 cases H.get id<;>rfl
@[simp] theorem znI (own:Bool) (c:AV) (cs:List AV) (sz off len:Nat):zeU (.cells own (c::cs)) sz off len=if off*sz+len*sz<=(c::cs).length then some (((c::cs).drop (off*sz)).take (len*sz),len) else none:=rfl
@[simp] def intF (n:Int):List PV:=[.int .i64 n]
@[simp] theorem zre {cl:Callee} {env:Env} {H:Heap} (off size:Nat) (g:Bool) (x:Opnd):step cl env H (.field off size g x)=if zbE (x.eval env)=true/\off+size<=(x.eval env).cells.length then (zae g (((x.eval env).cells.drop off).take size)).map .val else none:=rfl
@[simp] theorem zqb (ps:List PV):zbE (.pure (.agg ps))=true:=rfl
def zit (sz len:Nat) (g:Bool) (v i:AV):Option Eff:=match i with
 | .pure (.int _ n)=>if zbE v=true/\0<=n/\n < len/\n.toNat*sz+sz<=v.cells.length then (zae g ((v.cells.drop (n.toNat*sz)).take sz)).map .val else none
 | _=>none
@[simp] theorem zrf {cl:Callee} {env:Env} {H:Heap} (sz len:Nat) (g:Bool) (x i:Opnd):step cl env H (.index sz len g x i)=zit sz len g (x.eval env) (i.eval env):=by simp only [step,zit];rfl
@[simp] theorem zpZ (sz len:Nat) (g:Bool) (v:AV) (k:IntKind) (n:Int):zit sz len g v (.pure (.int k n))=if zbE v=true/\0<=n/\n < len/\n.toNat*sz+sz<=v.cells.length then (zae g ((v.cells.drop (n.toNat*sz)).take sz)).map .val else none:=rfl
@[simp] theorem zpR (f:Nat) (c:List PV):AV.cells (.pure (.func f c))=[.pure (.func f c)]:=rfl
@[simp] theorem zqM (h:Bool) (c:List PV) (o:Nat):AV.cells (.pure (.ptr h c o))=[.pure (.ptr h c o)]:=rfl
@[simp] theorem zqy (i o:Nat):AV.cells (.box i o)=[.box i o]:=rfl
theorem zh {H:Heap} {G:Prog} {n f:Nat} {ps caps:List PV} {r:PV} (hs:G.shared f=false) (h:zI G n f (ps++caps)=some r):zM (zq G n) H (.pure (.func f caps)) (ps.map .pure)=some (.val (.pure r)):=by
 have h1:zK (freeze H true zab) (ps.map .pure++caps.map .pure)=some (ps++caps,[]):=by rw [<- List.map_append];exact zdf true 11 _
 have h2:(zq G n).shared f=false:=hs;have h3:(zq G n).pure f (ps++caps)=some r:=h;simp only [zM,h2,Bool.false_eq_true,if_false,h1,h3,List.isEmpty_nil,Bool.true_or,if_true]
@[simp] theorem zqa (cs:List AV):(aggV cs).cells=cs:=by
 unfold aggV
 split
 ·rename_i ps h;have main:∀ (cs:List AV) (ps:List PV),zad cs=some ps->ps.map AV.pure=cs:=by
   intro cs
   induction cs with
   | nil=>intro ps h;simp [zad] at h;subst h;rfl
   | cons c cs ih =>
    intro ps h;unfold zad at h
    split at h
    ·rename_i h0;cases h0
    ·rename_i p vs' h0;simp only [List.cons.injEq] at h0;obtain ⟨rfl,rfl⟩:=h0;rw [Option.map_eq_some_iff] at h;obtain ⟨qs,hq,rfl⟩:=h;rw [List.map_cons,ih _ hq]
    ·simp at h
  exact main _ _ h
 ·rfl
def zjb (sz bytes:Nat) (zero:List PV) (l c:AV):Option Eff:=match l,c with
  | .pure (.int _ a),.pure (.int _ b) =>
   if 0<=a/\a=b/\a.toNat*sz<=zn/\a.toNat*bytes<=zn/\a.toNat<=zn then
    some (.new (.cells true ((List.replicate a.toNat (zero.map AV.pure)).flatten)) fun id=>.row id sz 0 a.toNat)
   else none
  | _,_=>none
@[simp] theorem zo5 {cl:Callee} {env:Env} {H:Heap} (sz bytes:Nat) (zero:List PV) (l c:Opnd):step cl env H (.makeSlice sz bytes zero l c)=zjb sz bytes zero (l.eval env) (c.eval env):=by simp only [step,zjb];rfl
@[simp] theorem zmh {sz bytes:Nat} {zero:List PV} {k k':IntKind} {n:Nat} (h:n*sz<=zn/\n*bytes<=zn/\n<=zn):zjb sz bytes zero (.pure (.int k n)) (.pure (.int k' n))=some (.new (.cells true ((List.replicate n (zero.map AV.pure)).flatten)) fun id=>.row id sz 0 n):=by
 simp only [zjb];rw [if_pos ⟨by omega,by trivial,by simpa using h.1,by simpa using h.2.1,by simpa using h.2.2⟩];simp
@[simp] theorem zqP {d:EqK} {k:IntKind} {a b:Int} (h:b≠0):vbin .quo d (.pure (.int k a)) (.pure (.int k b))=some (.pure (.int k (k.wrap (a.tdiv b)))):=by simp [vbin,zbG,h]
@[simp] theorem zrm {d:EqK} {k:IntKind} {a b:Int} (h:b≠0):vbin .rem d (.pure (.int k a)) (.pure (.int k b))=some (.pure (.int k (a.tmod b))):=by simp [vbin,zbG,h]
section
variable {H:Heap} {id sz off len i j:Nat} {k k':IntKind}
end
section
variable {α:Type} {H:Heap} {f:α->List PV} {sz:Nat} {s:Sl α} {i j:Nat} {k k':IntKind}
def Sl.sub (s:Sl α) (i j:Nat):Sl α:=match s with
 | .nil=>.nil
 | .mk h xs=>.mk h ((xs.take j).drop i)
end
def zfi:VCode->List Nat
 | .region _ ops=>dsts ops
 | .seq a b|.cond _ a b=>zfi a++zfi b
 | .block _ c|.loop c=>zfi c
 | _=>[]
def inR (ds:List (Nat×Nat)) (t:Nat):Bool:=ds.any fun p=>Nat.ble p.1 t&&Nat.ble t p.2
def ziv (ds:List (Nat×Nat)) (env0 env:Env):Env:=fun t=>if inR ds t=true then env t else env0 t
section
variable {cl:Callee} {Q:VExit->Env->Heap->Prop}
theorem zgS {t:Nat} {f:Env->Heap->Out} (hf:∀ env H x env' H',f env H=some (x,env',H')->env' t=env t):∀ {m env H x env' H'},iter f m env H=some (x,env',H')->env' t=env t
 | 0,env,H,x,env',H',h=>by simp [iter] at h
 | m+1,env,H,x,env',H',h=>by
  unfold iter at h
  split at h
  ·rename_i e1 h1 hr;exact (zgS hf h).trans (hf _ _ _ _ _ hr)
  ·exact hf _ _ _ _ _ h
theorem zaX {t:Nat}:∀ {c:VCode},(zfi c).contains t=false->∀ {env H x env' H'},exec cl c env H=some (x,env',H')->env' t=env t
 | .skip,_,env,H,x,env',H',h=>by simp [exec] at h;obtain ⟨_,rfl,_⟩:=h;rfl
 | .exit _,_,env,H,x,env',H',h=>by simp [exec] at h;obtain ⟨_,rfl,_⟩:=h;rfl
 | .ret,_,env,H,x,env',H',h=>by simp [exec] at h;obtain ⟨_,rfl,_⟩:=h;rfl
 | .region pre ops,ht,env,H,x,env',H',h=>by
  simp only [exec] at h
  split at h
  ·rename_i e1 h1 hr;simp at h;obtain ⟨_,rfl,_⟩:=h;exact zdF hr t ht
  ·simp at h
 | .seq a b,ht,env,H,x,env',H',h=>by
  simp [zfi] at ht;simp only [exec] at h
  split at h
  ·rename_i e1 h1 hr;exact (zaX (by simpa using ht.2) h).trans (zaX (by simpa using ht.1) hr)
  ·exact zaX (by simpa using ht.1) h
 | .cond c a b,ht,env,H,x,env',H',h=>by
  simp [zfi] at ht;simp only [exec] at h
  split at h
  ·split at h
   ·exact zaX (by simpa using ht.1) h
   ·exact zaX (by simpa using ht.2) h
  ·simp at h
 | .block id c,ht,env,H,x,env',H',h=>by
  simp only [exec] at h
  split at h
  ·rename_i i e1 h1 hr
   split at h
   ·simp at h;obtain ⟨_,rfl,_⟩:=h;exact zaX (c:=c) ht hr
   ·simp at h;obtain ⟨_,rfl,_⟩:=h;exact zaX (c:=c) ht hr
  ·exact zaX (c:=c) ht h
 | .loop c,ht,env,H,x,env',H',h=>by
  simp only [exec] at h;exact zgS (fun env H x env' H' h=>zaX (c:=c) ht h) h
 | .rangeFunc f ps as b,ht,env,H,x,env',H',h=>by
  simp only [exec] at h
  split at h
  ·split at h
   ·split at h
    ·split at h
     ·simp at h
     ·simp at h;obtain ⟨_,rfl,_⟩:=h;rfl
    ·simp at h
   ·simp at h
  ·split at h
   ·split at h
    ·split at h
     ·simp at h
     ·simp at h;obtain ⟨_,rfl,_⟩:=h;rfl
    ·simp at h
   ·simp at h
  ·simp at h
theorem zz {env:Env} {H:Heap} {c:VCode} {σ:Type} (ds:List (Nat×Nat)) (I:σ->Env->Heap->Prop) (m:σ->Nat) (s:σ) (hds:(zfi c).all (inR ds)=true) (h0:I s env H) (hm:m s < zx)
  (hb:∀ s env' H,I s env' H->wp cl c (ziv ds env env') H (zjr (fun e h=>∃ s',m s' < m s/\I s' e h) Q) .mk) {u}:wp cl (.loop c) env H Q u:=by
 refine zoS (fun s e h=>I s e h/\∀ t,inR ds t=false->e t=env t) m s ⟨h0,fun _ _=>rfl⟩ hm ?_
 rintro s e h ⟨hI,hfr⟩;have he:ziv ds env e=e:=by
  funext t
  simp only [ziv]
  split
  ·rfl
  ·rename_i ht;exact (hfr t (by simpa using ht)).symm
 have:=hb s e h hI;rw [he] at this;obtain ⟨x,e',h',h1,h2⟩:=this
 refine ⟨x,e',h',h1,?_⟩
 cases x with
 | normal =>
  obtain ⟨s',hs',hI'⟩:=h2
  refine ⟨s',hs',hI',fun t ht=>?_⟩
  have hn:(zfi c).contains t=false:=by
   rw [List.all_eq_true] at hds
   cases hc:(zfi c).contains t with
   | false=>rfl
   | true =>
    have:=hds t (by simpa using hc);rw [ht] at this;exact absurd this (by simp)
  exact (zaX hn h1).trans (hfr t ht)
 | exit i=>exact h2
 | ret=>exact h2
end
theorem ziP (ds:List (Nat×Nat)) (env0 env:Env) (t:Nat):ziv ds env0 env t=if inR ds t=true then env t else env0 t:=rfl
@[simp] theorem zrH (t:Nat):inR [] t=false:=rfl
@[simp] theorem zqT (a b:Nat) (ds:List (Nat×Nat)) (t:Nat):inR ((a,b)::ds) t=(Nat.ble a t&&Nat.ble t b||inR ds t):=rfl
attribute [simp] ziP
def FrzK (H:Heap) (k:Bool) (n:Nat) (v:AV) (p:PV):Prop:=∃ ids,freeze H k n v=some (p,ids)
def FrzL (H:Heap) (k:Bool) (n:Nat) (vs:List AV) (ps:List PV):Prop:=∃ ids,zK (freeze H k n) vs=some (ps,ids)
section
variable {H:Heap} {k:Bool} {n:Nat}
theorem FrzK.pure (p:PV):FrzK H k (n+1) (.pure p) p:=⟨[],rfl⟩
theorem FrzL.nil:FrzL H k n [] []:=⟨[],rfl⟩
theorem FrzL.cons {v:AV} {p:PV} {vs:List AV} {ps:List PV} (h:FrzK H k n v p) (hs:FrzL H k n vs ps):FrzL H k n (v::vs) (p::ps):=by
 obtain ⟨i,hi⟩:=h;obtain ⟨j,hj⟩:=hs;exact ⟨i++j,by simp only [zK,hi,hj]⟩
theorem FrzK.tup {vs:List AV} {ps:List PV} (h:FrzL H k n vs ps):FrzK H k (n+1) (.tup vs) (.tup ps):=by
 obtain ⟨i,hi⟩:=h;exact ⟨i,by simp only [freeze,hi]⟩
theorem FrzK.agg {vs:List AV} {ps:List PV} (h:FrzL H k n vs ps):FrzK H k (n+1) (.agg vs) (.agg ps):=by
 obtain ⟨i,hi⟩:=h;exact ⟨i,by simp only [freeze,hi]⟩
theorem FrzL.pures:∀ (ps:List PV),FrzL H k (n+1) (ps.map .pure) ps
 | []=>.nil
 | p::ps=>.cons (.pure p) (FrzL.pures ps)
theorem FrzK.aggV {vs:List AV} {ps:List PV} (h:FrzL H k n vs ps):FrzK H k (n+1) (aggV vs) (.agg ps):=by
 unfold Vm.aggV
 split
 ·rename_i qs hq;have:ps=qs:=by
   have main:∀ (vs:List AV) (ps qs:List PV),zad vs=some qs->FrzL H k n vs ps->ps=qs:=by
    intro vs
    induction vs with
    | nil=>intro ps qs h1 h2;simp [zad] at h1;obtain ⟨i,hi⟩:=h2;simp [zK] at hi;rw [h1,hi.1]
    | cons v vs ih =>
     intro ps qs h1 h2;unfold zad at h1
     split at h1
     ·rename_i h0;cases h0
     ·rename_i p vs' h0;simp only [List.cons.injEq] at h0;obtain ⟨rfl,rfl⟩:=h0;rw [Option.map_eq_some_iff] at h1;obtain ⟨qs',hq',rfl⟩:=h1;obtain ⟨i,hi⟩:=h2
      cases n with
      | zero=>simp [zK,freeze] at hi
      | succ n =>
       simp only [zK,freeze] at hi
       split at hi
       ·simp at hi
       ·rename_i ps' js hps;simp only [Option.some.injEq,Prod.mk.injEq] at hi;obtain ⟨rfl,_⟩:=hi;rw [ih _ _ hq' ⟨js,hps⟩]
     ·simp at h1
   exact main vs ps qs hq h
  subst this;exact .pure _
 ·exact .agg h
end
def zii:Option (List AV)->Option AV
 | some [v]=>some v
 | some vs=>some (.tup vs)
 | none=>none
theorem zgP (env:Env) (H:Heap) (rs:List VRes):results env H rs=zii (zbf env H rs):=by
 unfold results zii
 cases zbf env H rs with
 | none=>rfl
 | some l=>match l with
  | []=>rfl
  | [v]=>rfl
  | a::b::l=>rfl
@[simp] theorem zqN (v:AV):zii (some [v])=some v:=rfl
@[simp] theorem zqq:zii (some [])=some (.tup []):=rfl
@[simp] theorem zqw (a b:AV) (l:List AV):zii (some (a::b::l))=some (.tup (a::b::l)):=rfl
@[simp] theorem zjF (env:Env) (H:Heap):zbf env H []=some []:=rfl
@[simp] theorem ziW (env:Env) (H:Heap) (r:VRes) (rs:List VRes):zbf env H (r::rs)=(zcv env H r).bind fun v=>(zbf env H rs).map (v :: ·):=by
 simp only [zbf]
 cases zcv env H r with
 | none=>rfl
 | some v=>cases zbf env H rs<;>rfl
@[simp] theorem zpy (env:Env) (H:Heap) (t:Nat):zcv env H (.tmp t)=some (env t):=rfl
@[simp] theorem zis (env:Env) (H:Heap) (t size:Nat) (g:Bool):zcv env H (.cell t size g)=(zH H size (env t)).bind (zae g):=by
 simp only [zcv]
 cases zH H size (env t)<;>rfl
@[simp] theorem zoq (env:Env) (H:Heap) (a b:VRes) (rs:List VRes):results env H (a::b::rs)=zii (zbf env H (a::b::rs)):=zgP ..
@[simp] theorem zoy (env:Env) (H:Heap) (t size:Nat) (g:Bool):results env H [.cell t size g]=(zH H size (env t)).bind (zae g):=by
 rw [zgP];simp only [ziW,zjF,zis]
 cases (zH H size (env t)).bind (zae g)<;>rfl
@[simp] theorem zoZ (env:Env) (H:Heap):results env H []=some (.tup []):=rfl
def Names (v:AV) (id:Nat):Prop:=∃ sz o n,v=.row id sz o n
section
variable {α:Type} {f:α->List PV} {sz:Nat} {H:Heap} {v:AV} {l:List α}
theorem OwnV.names_lt (h:OwnV f sz H v l) {id:Nat} (hn:Names v id):id < H.nx:=by
 rcases h with ⟨_,rfl⟩|⟨i,rfl,hg⟩
 ·obtain ⟨_,_,_,h⟩:=hn;simp at h
 ·obtain ⟨_,_,_,h⟩:=hn;simp at h;obtain ⟨rfl,_⟩:=h;exact zC hg
theorem OwnV.fresh (h:OwnV f sz H v l):∀ id,H.nx<=id->¬ Names v id:=fun id hl hn=>by have:=h.names_lt hn;omega
theorem OwnV.len (h:OwnV f sz H v l):zdc v=some (.val (.pure (.int .i64 l.length))):=by
 rcases h with ⟨rfl,rfl⟩|⟨id,rfl,_⟩<;>rfl
theorem OwnV.frz {k:Bool} {n:Nat} (h:OwnV f sz H v l) (hf:∀ a,(f a).length=sz):FrzK H k (n+2) v ((match l with|[]=>Sl.nil|_=>.mk k l).pv f sz)\/(l=[]/\FrzK H k (n+2) v (.slice k sz [])):=by
 rcases h with ⟨rfl,rfl⟩|⟨id,rfl,hg⟩
 ·exact .inl (.pure _)
 ·have hch:∀ l:List α,chunks sz l.length ((l.map f).flatten)=l.map f:=by
   intro l
   induction l with
   | nil=>rfl
   | cons a l ih =>
    simp only [List.length_cons,chunks,List.map_cons,List.flatten_cons];rw [List.take_left' (hf a),List.drop_left' (hf a),ih]
  have hlen:((l.map f).flatten).length=l.length*sz:=by
   have:=zar hf l
   simpa [zm,List.map_flatten,Function.comp_def] using this
  have hp:zm f l=((l.map f).flatten).map .pure:=by simp [zm,List.map_flatten,Function.comp_def]
  have key:FrzK H k (n+2) (.row id sz 0 l.length) (.slice k sz (l.map f)):=by
   refine ⟨[id],?_⟩
   have h1:((zm f l).drop (0*sz)).take (l.length*sz)=((l.map f).flatten).map .pure:=by
    rw [Nat.zero_mul,List.drop_zero,hp];exact List.take_of_length_le (by rw [List.length_map,hlen];exact Nat.le_refl _)
   obtain ⟨ids,hids⟩:=FrzL.pures (H:=H) (k:=k) (n:=n) ((l.map f).flatten);have hids0:zK (freeze H k (n+1)) (((l.map f).flatten).map .pure)=some ((l.map f).flatten,[]):=by
    clear hids;generalize (l.map f).flatten=q
    induction q with
    | nil=>rfl
    | cons p ps ih=>rw [List.map_cons,zK,ih];rfl
   unfold freeze;simp only [hg,h1,hids0,hlen,if_true,hch]
  cases l with
  | nil=>exact .inr ⟨rfl,key⟩
  | cons a l=>exact .inl key
def GrowV {α:Type} (f:α->List PV) (sz:Nat) (H:Heap) (v:AV) (l:List α):Prop:=OwnV f sz H v l/\(l=[]->v=.pure .nils)
theorem GrowV.nil:GrowV f sz H (.pure .nils) ([]:List α):=⟨OwnV.nil,fun _=>rfl⟩
theorem GrowV.cast {m:List α} (h:GrowV f sz H v l) (e:l=m):GrowV f sz H v m:=e ▸ h
theorem GrowV.alloc (h:GrowV f sz H v l) (o:AObj):GrowV f sz (H.alloc o) v l:=⟨h.1.alloc o,h.2⟩
theorem GrowV.set {id:Nat} (h:GrowV f sz H v l) (hn:¬ Names v id) (o:AObj):GrowV f sz (H.set id o) v l:=by
 refine ⟨h.1.keep fun i ⟨n,hi⟩=>?_,h.2⟩
 exact zg fun e=>hn ⟨sz,0,n,by rw [hi,e]⟩
theorem OwnV.row (h:OwnV f sz H v l) (hl:l≠[]):∃ id,v=.row id sz 0 l.length/\H.get id=.cells true (zm f l):=by
 rcases h with ⟨h,_⟩|h
 ·exact absurd h hl
 ·exact h
theorem zeL (hf:∀ a,(f a).length=sz) {i:Nat} (hi:i < l.length):∃ p q,zm f l=p++(f l[i]).map .pure++q/\p.length=i*sz:=by
 refine ⟨zm f (l.take i),zm f (l.drop (i+1)),?_,?_⟩
 ·rw [<- zee,<- zax,<- zax]
  congr 1
  rw [List.append_assoc,List.singleton_append,<- List.drop_eq_getElem_cons hi,List.take_append_drop]
 ·rw [zar hf,List.length_take,Nat.min_eq_left (by omega)]
theorem zeb {own:Bool} (hf:∀ a,(f a).length=sz) {i:Nat} (hi:i < l.length) {off size:Nat} (ho:off+size<=sz):zck (.cells own (zm f l)) size (i*sz+off)=some ((((f l[i]).drop off).take size).map .pure):=by
 obtain ⟨p,q,h1,h2⟩:=zeL hf hi;simp only [zck];rw [h1,List.append_assoc];have h3:(List.map AV.pure (f l[i])).length=sz:=by rw [List.length_map,hf]
 rw [if_pos (by rw [List.length_append,List.length_append,h2,h3];omega)];rw [<- h2,List.drop_append,List.drop_of_length_le (by omega)];have:p.length+off - p.length=off:=by omega
 rw [this,List.nil_append,List.drop_append_of_le_length (by omega),List.take_append_of_le_length (by rw [List.length_drop];omega),List.map_take,List.map_drop]
@[simp] theorem zkR {own:Bool} {i size:Nat} (hf:∀ a,(f a).length=sz) (hi:i < l.length) (ho:size<=sz):zck (.cells own (zm f l)) size (i*sz)=some (((f l[i]).take size).map .pure):=by
 have:=zeb (own:=own) hf hi (off:=0) (size:=size) (by omega)
 simpa using this
@[simp] theorem zcf {own:Bool} {i size off:Nat} (hf:∀ a,(f a).length=sz) (hi:i < l.length) (ho:off+size<=sz):zck (.cells own (zm f l)) size (i*sz+off)=some ((((f l[i]).drop off).take size).map .pure):=zeb hf hi ho
@[simp] theorem zbH {own:Bool} {i:Nat} (hf:∀ a,(f a).length=1) (hi:i < l.length):zck (.cells own (zm f l)) 1 i=some ((f l[i]).map .pure):=by
 have:=zeb (own:=own) hf hi (off:=0) (size:=1) (by omega);rw [Nat.mul_one,Nat.add_zero,List.drop_zero,List.take_of_length_le (by rw [hf];exact Nat.le_refl 1)] at this;exact this
theorem zid (hf:∀ a,(f a).length=sz) {i:Nat} (hi:i < l.length) (a:α):(zm f l).take (i*sz)++(f a).map .pure++(zm f l).drop (i*sz+sz)=zm f (l.set i a):=by
 obtain ⟨p,q,h1,h2⟩:=zeL hf hi;have h3:(List.map AV.pure (f l[i])).length=sz:=by rw [List.length_map,hf]
 have h4:zm f (l.take i)=p:=by
  have e1:zm f (l.take i)++((f l[i]).map .pure++zm f (l.drop (i+1)))=p++((f l[i]).map .pure++q):=by
   rw [<- List.append_assoc,<- List.append_assoc,<- h1,<- zee,<- zax,<- zax]
   congr 1
   rw [List.append_assoc,List.singleton_append,<- List.drop_eq_getElem_cons hi,List.take_append_drop]
  have e2:(zm f (l.take i)).length=p.length:=by rw [zar hf,h2,List.length_take,Nat.min_eq_left (by omega)]
  exact (List.append_inj e1 e2).1
 have h5:zm f (l.drop (i+1))=q:=by
  have e1:zm f (l.take i)++((f l[i]).map .pure++zm f (l.drop (i+1)))=p++((f l[i]).map .pure++q):=by
   rw [<- List.append_assoc,<- List.append_assoc,<- h1,<- zee,<- zax,<- zax]
   congr 1
   rw [List.append_assoc,List.singleton_append,<- List.drop_eq_getElem_cons hi,List.take_append_drop]
  rw [h4] at e1;exact List.append_cancel_left (List.append_cancel_left e1)
 rw [h1,List.append_assoc p,List.take_left' h2,<- h2,List.drop_append,List.drop_of_length_le (by omega),List.nil_append];have h6:p.length+sz - p.length=sz:=by omega
 rw [h6,List.drop_left' h3,<- h4,<- h5,List.set_eq_take_append_cons_drop,if_pos hi,zax,List.append_assoc]
 congr 1
theorem zbm {a:α} (hf:∀ a,(f a).length=sz) (hone:∀ a,(f a).all PV.one=true) (h0:0 < sz) {i:Nat} (h:i < l.length):zbK (.cells true (zm f l)) sz (i*sz) ((f a).map .pure)=some (.cells true (zm f (l.set i a))):=by
 simp only [zbK];have hle:i*sz+sz<=(zm f l).length:=by
  rw [zar hf,<- Nat.succ_mul];exact Nat.mul_le_mul_right sz h
 rw [if_pos ⟨by rw [List.length_map,hf],by omega,zb9 _ (hone a),hle⟩,zid hf h]
theorem GrowV.setNew (h:GrowV f sz H v l) (o o':AObj):GrowV f sz ((H.alloc o).set H.nx o') v l:=(h.alloc o).set (h.1.fresh _ (Nat.le_refl _)) o'
theorem GrowV.frz {k:Bool} {n:Nat} (h:GrowV f sz H v l) (hf:∀ a,(f a).length=sz):FrzK H k (n+2) v ((match l with|[]=>Sl.nil|_=>.mk k l).pv f sz):=by
 rcases h.1.frz (k:=k) (n:=n) hf with h1|⟨rfl,h1⟩
 ·exact h1
 ·rw [h.2 rfl];exact .pure _
theorem GrowV.res {n:Nat} (h:GrowV f sz H v l) (hf:∀ a,(f a).length=sz):FrzK H false (n+2) v ((Sl.of l).pv f sz):=by
 have:=h.frz (k:=false) (n:=n) hf
 cases l<;>exact this
def idOf:AV->Nat
 | .row id _ _ _=>id
 | _=>0
theorem OwnV.addr (h:OwnV f sz H v l) {k:IntKind} {i:Nat} (hi:i < l.length):zcn sz v (.pure (.int k i))=some (.val (.box (idOf v) (i*sz))):=by
 obtain ⟨id,rfl,_⟩:=h.row (by intro e;subst e;simp at hi);rw [zmx hi];simp [idOf]
theorem OwnV.objI (h:OwnV f sz H v l) (hl:0 < l.length):H.get (idOf v)=.cells true (zm f l):=by
 obtain ⟨id,rfl,hg⟩:=h.row (by intro e;subst e;simp at hl);exact hg
def asF {α:Type} (f:α->List PV) (cs:List AV) (P:α->Prop) (_:Tag P):Prop:=∃ a,cs=(f a).map .pure/\P a
def appG {α:Type} (f:α->List PV) (r:Option (List AV×Nat)) (P:α->Prop) (_:Tag P):Prop:=∃ a,r=some ((f a).map .pure,1)/\P a
@[simp] theorem zqs (f:α->List PV) (cs:List AV) (P:α->Prop) {u}:appG f (some (cs,1)) P u↔asF f cs P .mk:=by
 simp [appG,asF]
@[simp] theorem zrB (x:Int) (P:Int->Prop) {u}:asF intF [.pure (.int .i64 x)] P u↔P x:=by
 simp [asF,intF]
structure After (v:AV) (H:Heap) (v':AV) (H':Heap):Prop where
 nx:H.nx<=H'.nx
 get:∀ id,id < H.nx->¬ Names v id->H'.get id=H.get id
 new:∀ id,Names v' id->H.nx<=id
theorem After.grow {v':AV} {H':Heap} {β:Type} {g:β->List PV} {sz':Nat} {w:AV} {m:List β} (ha:After v H v' H') (h:GrowV g sz' H w m) (hd:∀ id,Names w id->¬ Names v id):GrowV g sz' H' w m/\∀ id,Names w id->¬ Names v' id:=by
 refine ⟨⟨h.1.keep fun i ⟨n,hi⟩=>?_,h.2⟩,fun id hw hv=>?_⟩
 ·exact ha.get i (h.1.names_lt ⟨_,_,_,hi⟩) (hd i ⟨_,_,_,hi⟩)
 ·have:=ha.new id hv;have:=h.1.names_lt hw;omega
theorem OwnV.one (h:OwnV f sz H v l):AV.one v=true/\AV.cells v=[v]:=by
 rcases h with ⟨_,rfl⟩|⟨id,rfl,_⟩<;>exact ⟨rfl,rfl⟩
theorem zk {P:AV->Heap->Prop} (h:∀ v' H',GrowV f sz H' v' l->H.nx<=H'.nx->(∀ id,id < H.nx->¬ Names v id->H'.get id=H.get id)->(∀ id,Names v' id->H.nx<=id)->AV.one v'=true->AV.cells v'=[v']->P v' H'):∀ v' H',GrowV f sz H' v' l->After v H v' H'->P v' H' :=
 fun v' H' h1 h2=>h v' H' h1 h2.nx h2.get h2.new h1.1.one.1 h1.1.one.2
theorem zaE {bytes:Nat} {b:AV} {k:AV->Heap->Prop} {u} (hv:GrowV f sz H v l) (hf:∀ a,(f a).length=sz) (h0:0 < sz) (hone:∀ a,(f a).all PV.one=true)
  (hm:(l.length+1)*sz<=zn/\(l.length+1)*bytes<=zn)
  (hk:appG f (zJ H sz b) (fun a=>∀ v' H',GrowV f sz H' v' (l++[a])->After v H v' H'->k v' H') .mk):wpE 0 (zi H sz bytes v b) H k u:=by
 obtain ⟨a,hb,hk⟩:=hk;have ho:=zb9 _ (hone a);rcases hv.1 with ⟨rfl,rfl⟩|⟨i,rfl,hg⟩
 ·have h5:zi H sz bytes (.pure .nils) b=some (.new (.cells true ((f a).map .pure)) fun id=>.row id sz 0 1):=by
   simp only [zi,hb,ho];have h1:1*sz<=zn/\1*bytes<=zn:=by simpa using hm
   simp only [Bool.not_true,Bool.false_eq_true,if_false];rw [if_neg (by simp),if_pos h1]
  rw [h5,zei]
  refine hk _ _ ⟨.inr ⟨H.nx,rfl,?_⟩,fun h=>by simp at h⟩ ⟨Nat.le_succ _,fun id hl _=>zf hl,fun id ⟨_,_,_,h⟩=>?_⟩
  ·rw [zaf];simp [zm]
  ·simp at h;omega
 ·have hlen:=zar hf l;have hnot:¬ (0*sz+(l.length+1)*sz<=(zm f l).length):=by rw [hlen,Nat.add_mul];omega
  have h5:zi H sz bytes (.row i sz 0 l.length) b=some (.upd (.row H.nx sz 0 (l.length+1)) ((H.set i .dead).alloc (.cells true (zm f l++(f a).map .pure)))):=by
   simp only [zi,hb,ho,hg];simp only [Bool.not_true,Bool.false_eq_true,if_false,if_true];rw [if_neg hnot];simp only [true_and];rw [if_pos ⟨hlen.symm,hm⟩]
  rw [h5,zeZ]
  refine hk _ _ ⟨.inr ⟨H.nx,by simp,?_⟩,fun h=>by simp at h⟩ ⟨Nat.le_succ _,fun id hl hn=>?_,fun id ⟨_,_,_,h⟩=>?_⟩
  ·have:(H.set i .dead).nx=H.nx:=rfl;rw [<- this,zaf,zax,zee]
  ·rw [zf (by exact hl),zg];intro e;subst e;exact hn ⟨_,_,_,rfl⟩
  ·simp at h;omega
theorem zt {bytes:Nat} {b:AV} {k:AV->Heap->Prop} {u}
  (hk:appG f (zJ H sz b) (fun a=>∀ v' H',GrowV f sz H' v' (l++[a])->After v H v' H'->k v' H') .mk)
  (hv:GrowV f sz H v l:=by (first|assumption|(repeat' first|assumption|with_reducible apply GrowV.setNew|with_reducible apply GrowV.alloc|with_reducible apply GrowV.set|(with_reducible show ¬ Names _ _;simp [*];done)))) (hf:∀ a,(f a).length=sz:=by exact fun _=>rfl) (h0:0 < sz:=by decide) (hone:∀ a,(f a).all PV.one=true:=by (intro a;first|rfl|simp))
  (hm:(l.length+1)*sz<=zn/\(l.length+1)*bytes<=zn:=by (simp [zn]<;>omega)):wpE 0 (zi H sz bytes v b) H k u :=
 zaE hv hf h0 hone hm hk
end
end Go.Proofs.Ytleggocccaeemaa.Vm

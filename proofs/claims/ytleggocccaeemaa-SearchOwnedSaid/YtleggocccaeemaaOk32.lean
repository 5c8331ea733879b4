/- A run in which some calls on data are looked up in a table of calls that are known: it is the run itself. -/
import Derived.Test.YtleggocccaeemaaOk7
namespace Go.Proofs.Ytleggocccaeemaa.Vm
open Go
set_option linter.unusedVariables false
set_option linter.unusedSimpArgs false
def zeo {α:Type} (s:α->α->Bool):List α->List α->Bool
 | [],[]=>true
 | a::l,b::m=>s a b&&zeo s l m
 | _,_=>false
theorem zdl {α:Type} {s:α->α->Bool} (hs:∀ a b,s a b=true->a=b):∀ {l m:List α},zeo s l m=true->l=m
 | [],[],_=>rfl
 | [],_::_,h=>by simp [zeo] at h
 | _::_,[],h=>by simp [zeo] at h
 | a::l,b::m,h=>by
  simp only [zeo,Bool.and_eq_true] at h;rw [hs _ _ h.1,zdl hs h.2]
def PV.same:Nat->PV->PV->Bool
 | 0,_,_=>false
 | n+1,p,q=>match p with
  | .int k a=>match q with
   | .int k' b=>decide (k=k')&&a == b
   | _=>false
  | .bool a=>match q with
   | .bool b=>a == b
   | _=>false
  | .agg cs=>match q with
   | .agg ds=>zeo (PV.same n) cs ds
   | _=>false
  | .nils=>match q with
   | .nils=>true
   | _=>false
  | .slice h s es=>match q with
   | .slice h' s' es'=>h == h'&&s == s'&&zeo (zeo (PV.same n)) es es'
   | _=>false
  | .func f cs=>match q with
   | .func f' cs'=>f == f'&&zeo (PV.same n) cs cs'
   | _=>false
  | _=>false
theorem zlz:∀ (n:Nat) (p q:PV),p.same n q=true->p=q
 | 0,_,_,h=>by simp [PV.same] at h
 | n+1,p,q,h=>by
  have ih:=zlz n;unfold PV.same at h
  split at h<;>first|(simp at h;done)|(split at h<;>first|(simp at h;done)|rfl|skip)
  ·simp at h;rw [h.1,h.2]
  ·simp at h;rw [h]
  ·rw [zdl ih h]
  ·simp only [Bool.and_eq_true,beq_iff_eq] at h;rw [h.1.1,h.1.2,zdl (fun _ _=>zdl ih) h.2]
  ·simp only [Bool.and_eq_true,beq_iff_eq] at h;rw [h.1,zdl ih h.2]
abbrev Tab:=List (Nat×List PV×PV)
def Tab.find (t:Tab) (f:Nat) (ps:List PV):Option PV:=match t with
 | []=>none
 | (g,qs,r)::t=>if g == f&&zeo (PV.same 12) qs ps then some r else Tab.find t f ps
theorem Tab.find_mem:∀ {t:Tab} {f:Nat} {ps:List PV} {r:PV},t.find f ps=some r->(f,ps,r)∈t
 | [],f,ps,r,h=>by simp [Tab.find] at h
 | (g,qs,s)::t,f,ps,r,h=>by
  simp only [Tab.find] at h
  split at h
  ·rename_i hc;simp only [Bool.and_eq_true,beq_iff_eq] at hc;simp only [Option.some.injEq] at h;rw [<- hc.1,<- zdl (zlz 12) hc.2,<- h];exact List.mem_cons_self ..
  ·exact List.mem_cons_of_mem _ (Tab.find_mem h)
def zaI (cl:Callee) (fs:List Nat) (t:Tab):Callee:={ cl with pure:=fun f ps=>if fs.contains f then t.find f ps else cl.pure f ps }
section
variable {cl:Callee} {fs:List Nat} {t:Tab} (ht:∀ e∈t,cl.pure e.1 e.2.1=some e.2.2)
include ht
theorem znn {f:Nat} {ps:List PV} {r:PV} (h:(zaI cl fs t).pure f ps=some r):cl.pure f ps=some r:=by
 simp only [zaI] at h
 split at h
 ·exact ht _ (Tab.find_mem h)
 ·exact h
theorem zjh {H:Heap} {f:AV} {xs:List AV} {e:Eff} (h:zM (zaI cl fs t) H f xs=some e):zM cl H f xs=some e:=by
 unfold zM at h ⊢;have go:∀ (g:Nat) (ys:List AV),(if (zaI cl fs t).shared g then
    match (zaI cl fs t).run g ys H with
    | some (v,H')=>some (.upd v H')
    | none=>none
   else
    match zK (freeze H true zab) ys with
    | none=>none
    | some (ps,ids) =>
     match (zaI cl fs t).pure g ps with
     | none=>none
     | some r=>if ids.isEmpty||r.cold then some (.val (.pure r)) else some (.upd (.pure r) (H.freeze ids)):Option Eff)=some e ->
    (if cl.shared g then
    match cl.run g ys H with
    | some (v,H')=>some (.upd v H')
    | none=>none
   else
    match zK (freeze H true zab) ys with
    | none=>none
    | some (ps,ids) =>
     match cl.pure g ps with
     | none=>none
     | some r=>if ids.isEmpty||r.cold then some (.val (.pure r)) else some (.upd (.pure r) (H.freeze ids)):Option Eff)=some e:=by
  intro g ys h;have e1:(zaI cl fs t).shared g=cl.shared g:=rfl;have e2:(zaI cl fs t).run g ys H=cl.run g ys H:=rfl;rw [e1,e2] at h
  split at h
  ·rename_i hs;rw [if_pos hs];exact h
  ·rename_i hs;rw [if_neg hs]
   split at h
   ·simp at h
   ·rename_i ps ids hf
    split at h
    ·simp at h
    ·rename_i r hr;simp only [znn ht hr];exact h
 split at h
 ·exact go _ _ h
 ·exact go _ _ h
 ·exact go _ _ h
 ·exact h
 ·simp at h
theorem zno {env:Env} {H:Heap} {op:VOp} {e:Eff} (h:step (zaI cl fs t) env H op=some e):step cl env H op=some e:=by
 cases op<;>first|exact h|skip
 case call f xs=>exact zjh ht h
 case callE f xs ls =>
  simp only [step] at h ⊢
  split at h
  ·rename_i v H2 hd;rw [zjh ht hd];exact h
  ·simp at h
theorem zi2:∀ {pre:Nat} {ops:List VOper} {env:Env} {H:Heap} {r:Env×Heap},zT (zaI cl fs t) pre ops env H=some r->zT cl pre ops env H=some r
 | _,[],_,_,_,h=>h
 | pre,o::os,env,H,r,h=>by
  simp only [zT] at h ⊢
  split at h
  ·simp at h
  ·exact zi2 h
  ·split at h
   ·simp at h
   ·rename_i e he;rw [zno ht he];simp only
    split at h
    ·simp at h
    ·rename_i hc;rw [if_neg hc];exact zi2 h
omit ht in
theorem zjC {f g:Env->Heap->Out} (hf:∀ env H r,f env H=some r->g env H=some r):∀ (m:Nat) {env:Env} {H:Heap} {r},iter f m env H=some r->iter g m env H=some r
 | 0,_,_,_,h=>by simp [iter] at h
 | m+1,env,H,r,h=>by
  simp only [iter] at h ⊢
  split at h
  ·rename_i env' H' h1;rw [hf _ _ _ h1];exact zjC hf m h
  ·rename_i hn;have h2:=hf _ _ _ h;obtain ⟨x,e1,h1⟩:=r;rw [h2]
   cases x with
   | normal=>exact absurd h (hn _ _)
   | _=>rfl
theorem zbO:∀ {c:VCode} {env:Env} {H:Heap} {r},exec (zaI cl fs t) c env H=some r->exec cl c env H=some r
 | .skip,_,_,_,h=>h
 | .region pre ops,env,H,r,h=>by
  simp only [exec] at h ⊢
  split at h
  ·rename_i e' h' hr;rw [zi2 ht hr];exact h
  ·simp at h
 | .seq a b,env,H,r,h=>by
  simp only [exec] at h ⊢
  split at h
  ·rename_i env' H' h1;rw [zbO h1];exact zbO h
  ·rename_i hn;have h2:=zbO h;obtain ⟨x,e1,h1⟩:=r;rw [h2]
   cases x with
   | normal=>exact absurd h (hn _ _)
   | _=>rfl
 | .cond c a b,env,H,r,h=>by
  simp only [exec] at h ⊢
  split at h
  ·split at h
   ·rename_i hc;rw [if_pos hc];exact zbO h
   ·rename_i hc;rw [if_neg hc];exact zbO h
  ·simp at h
 | .block id c,env,H,r,h=>by
  simp only [exec] at h ⊢
  split at h
  ·rename_i i env' H' h1;rw [zbO h1];exact h
  ·rename_i hn;have h2:=zbO h;obtain ⟨x,e1,h1⟩:=r;rw [h2]
   cases x with
   | exit i=>exact absurd h (hn _ _ _)
   | _=>rfl
 | .loop c,env,H,r,h=>by
  simp only [exec] at h ⊢;exact zjC (fun _ _ _ h=>zbO h) _ h
 | .exit _,_,_,_,h=>h
 | .ret,_,_,_,h=>h
 | .rangeFunc _ _ _ _,_,_,_,h=>h
end
def zlH (G:Prog) (n:Nat) (fs:List Nat) (t:Tab) (f:Nat) (ps:List PV):Option PV:=match G.func f with
 | none=>none
 | some fn=>if (ps.map AV.pure).length=fn.nargs then
   match exec (zaI (zq G n) fs t) fn.body (zb (ps.map .pure)) Heap.empty with
   | some (.normal,env,H')|some (.ret,env,H')=>match Vm.results env H' fn.results with
    | some v=>(freeze H' false zab v).map (·.1)
    | none=>none
   | _=>none
  else none
theorem zfG {G:Prog} {n:Nat} {fs:List Nat} {t:Tab} {f:Nat} {ps:List PV} {r:PV} (hx:G.ext f=none) (hr:G.extRun f (ps.map .pure) Heap.empty=none) (ht:∀ e∈t,zI G n e.1 e.2.1=some e.2.2) (h:zlH G n fs t f ps=some r):zI G (n+1) f ps=some r:=by
 unfold zI;rw [hx];simp only;rw [ziR,hr];unfold zlH at h
 split at h
 ·simp at h
 ·rename_i fn hfn;rw [hfn];simp only
  split at h
  ·rename_i hl;rw [if_pos hl];have key:∀ {o},exec (zaI (zq G n) fs t) fn.body (zb (ps.map .pure)) Heap.empty=some o->exec (zq G n) fn.body (zb (ps.map .pure)) Heap.empty=some o:=fun ho=>zbO (cl:=zq G n) ht ho
   split at h
   ·rename_i env H' he;rw [key he];simp only
    split at h
    ·rename_i v hv;rw [hv];exact h
    ·simp at h
   ·rename_i env H' he;rw [key he];simp only
    split at h
    ·rename_i v hv;rw [hv];exact h
    ·simp at h
   ·simp at h
  ·simp at h
end Go.Proofs.Ytleggocccaeemaa.Vm

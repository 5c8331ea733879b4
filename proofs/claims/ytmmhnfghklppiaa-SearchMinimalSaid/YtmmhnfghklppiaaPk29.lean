/- A run in which some calls on data are looked up in a table of calls that are known: it is the run itself. -/
import Derived.Test.YtmmhnfghklppiaaPk7
namespace Go.Proofs.Ytmmhnfghklppiaa.Vm
open Go
set_option linter.unusedVariables false
set_option linter.unusedSimpArgs false
def sameL {α:Type} (s:α→α→Bool):List α→List α→Bool
 | [],[]=>true
 | a::l,b::m=>s a b&&sameL s l m
 | _,_=>false
theorem sameL_eq {α:Type} {s:α→α→Bool} (hs:∀ a b,s a b=true→a=b):∀ {l m:List α},sameL s l m=true→l=m
 | [],[],_=>rfl
 | [],_::_,h=>by simp [sameL] at h
 | _::_,[],h=>by simp [sameL] at h
 | a::l,b::m,h=>by
  simp only [sameL,Bool.and_eq_true] at h;rw [hs _ _ h.1,sameL_eq hs h.2]
def PV.same:Nat→PV→PV→Bool
 | 0,_,_=>false
 | n+1,p,q=>match p with
  | .int k a=>match q with
   | .int k' b=>decide (k=k')&&a == b
   | _=>false
  | .bool a=>match q with
   | .bool b=>a == b
   | _=>false
  | .agg cs=>match q with
   | .agg ds=>sameL (PV.same n) cs ds
   | _=>false
  | .nils=>match q with
   | .nils=>true
   | _=>false
  | .slice h s es=>match q with
   | .slice h' s' es'=>h == h'&&s == s'&&sameL (sameL (PV.same n)) es es'
   | _=>false
  | .func f cs=>match q with
   | .func f' cs'=>f == f'&&sameL (PV.same n) cs cs'
   | _=>false
  | _=>false
theorem same_eq:∀ (n:Nat) (p q:PV),p.same n q=true→p=q
 | 0,_,_,h=>by simp [PV.same] at h
 | n+1,p,q,h=>by
  have ih:=same_eq n;unfold PV.same at h
  split at h<;>first|(simp at h;done)|(split at h<;>first|(simp at h;done)|rfl|skip)
  ·simp at h;rw [h.1,h.2]
  ·simp at h;rw [h]
  ·rw [sameL_eq ih h]
  ·simp only [Bool.and_eq_true,beq_iff_eq] at h;rw [h.1.1,h.1.2,sameL_eq (fun _ _=>sameL_eq ih) h.2]
  ·simp only [Bool.and_eq_true,beq_iff_eq] at h;rw [h.1,sameL_eq ih h.2]
abbrev Tab:=List (Nat×List PV×PV)
def Tab.find (t:Tab) (f:Nat) (ps:List PV):Option PV:=match t with
 | []=>none
 | (g,qs,r)::t=>if g == f&&sameL (PV.same 12) qs ps then some r else Tab.find t f ps
theorem Tab.find_mem:∀ {t:Tab} {f:Nat} {ps:List PV} {r:PV},t.find f ps=some r→(f,ps,r)∈t
 | [],f,ps,r,h=>by simp [Tab.find] at h
 | (g,qs,s)::t,f,ps,r,h=>by
  simp only [Tab.find] at h
  split at h
  ·rename_i hc;simp only [Bool.and_eq_true,beq_iff_eq] at hc;simp only [Option.some.injEq] at h;rw [← hc.1,← sameL_eq (same_eq 12) hc.2,← h];exact List.mem_cons_self ..
  ·exact List.mem_cons_of_mem _ (Tab.find_mem h)
def tabCallee (cl:Callee) (fs:List Nat) (t:Tab):Callee:={ cl with pure:=fun f ps=>if fs.contains f then t.find f ps else cl.pure f ps }
section
variable {cl:Callee} {fs:List Nat} {t:Tab} (ht:∀ e∈t,cl.pure e.1 e.2.1=some e.2.2)
include ht
theorem tab_pure {f:Nat} {ps:List PV} {r:PV} (h:(tabCallee cl fs t).pure f ps=some r):cl.pure f ps=some r:=by
 simp only [tabCallee] at h
 split at h
 ·exact ht _ (Tab.find_mem h)
 ·exact h
theorem tab_call {H:Heap} {f:AV} {xs:List AV} {e:Eff} (h:doCall (tabCallee cl fs t) H f xs=some e):doCall cl H f xs=some e:=by
 unfold doCall at h ⊢;have go:∀ (g:Nat) (ys:List AV),(if (tabCallee cl fs t).shared g then
    match (tabCallee cl fs t).run g ys H with
    | some (v,H')=>some (.upd v H')
    | none=>none
   else
    match freezeL (freeze H true depthF) ys with
    | none=>none
    | some (ps,ids) =>
     match (tabCallee cl fs t).pure g ps with
     | none=>none
     | some r=>if ids.isEmpty||r.cold then some (.val (.pure r)) else some (.upd (.pure r) (H.freeze ids)):Option Eff)=some e →
    (if cl.shared g then
    match cl.run g ys H with
    | some (v,H')=>some (.upd v H')
    | none=>none
   else
    match freezeL (freeze H true depthF) ys with
    | none=>none
    | some (ps,ids) =>
     match cl.pure g ps with
     | none=>none
     | some r=>if ids.isEmpty||r.cold then some (.val (.pure r)) else some (.upd (.pure r) (H.freeze ids)):Option Eff)=some e:=by
  intro g ys h;have e1:(tabCallee cl fs t).shared g=cl.shared g:=rfl;have e2:(tabCallee cl fs t).run g ys H=cl.run g ys H:=rfl;rw [e1,e2] at h
  split at h
  ·rename_i hs;rw [if_pos hs];exact h
  ·rename_i hs;rw [if_neg hs]
   split at h
   ·simp at h
   ·rename_i ps ids hf
    split at h
    ·simp at h
    ·rename_i r hr;simp only [tab_pure ht hr];exact h
 split at h
 ·exact go _ _ h
 ·exact go _ _ h
 ·exact go _ _ h
 ·exact h
 ·simp at h
theorem tab_step {env:Env} {H:Heap} {op:VOp} {e:Eff} (h:step (tabCallee cl fs t) env H op=some e):step cl env H op=some e:=by
 cases op<;>first|exact h|skip
 case call f xs=>exact tab_call ht h
 case callE f xs ls =>
  simp only [step] at h ⊢
  split at h
  ·rename_i v H2 hd;rw [tab_call ht hd];exact h
  ·simp at h
theorem tab_ops:∀ {pre:Nat} {ops:List VOper} {env:Env} {H:Heap} {r:Env×Heap},runOps (tabCallee cl fs t) pre ops env H=some r→runOps cl pre ops env H=some r
 | _,[],_,_,_,h=>h
 | pre,o::os,env,H,r,h=>by
  simp only [runOps] at h ⊢
  split at h
  ·simp at h
  ·exact tab_ops h
  ·split at h
   ·simp at h
   ·rename_i e he;rw [tab_step ht he];simp only
    split at h
    ·simp at h
    ·rename_i hc;rw [if_neg hc];exact tab_ops h
omit ht in
theorem tab_iter {f g:Env→Heap→Out} (hf:∀ env H r,f env H=some r→g env H=some r):∀ (m:Nat) {env:Env} {H:Heap} {r},iter f m env H=some r→iter g m env H=some r
 | 0,_,_,_,h=>by simp [iter] at h
 | m+1,env,H,r,h=>by
  simp only [iter] at h ⊢
  split at h
  ·rename_i env' H' h1;rw [hf _ _ _ h1];exact tab_iter hf m h
  ·rename_i hn;have h2:=hf _ _ _ h;obtain ⟨x,e1,h1⟩:=r;rw [h2]
   cases x with
   | normal=>exact absurd h (hn _ _)
   | _=>rfl
theorem tab_exec:∀ {c:VCode} {env:Env} {H:Heap} {r},exec (tabCallee cl fs t) c env H=some r→exec cl c env H=some r
 | .skip,_,_,_,h=>h
 | .region pre ops,env,H,r,h=>by
  simp only [exec] at h ⊢
  split at h
  ·rename_i e' h' hr;rw [tab_ops ht hr];exact h
  ·simp at h
 | .seq a b,env,H,r,h=>by
  simp only [exec] at h ⊢
  split at h
  ·rename_i env' H' h1;rw [tab_exec h1];exact tab_exec h
  ·rename_i hn;have h2:=tab_exec h;obtain ⟨x,e1,h1⟩:=r;rw [h2]
   cases x with
   | normal=>exact absurd h (hn _ _)
   | _=>rfl
 | .cond c a b,env,H,r,h=>by
  simp only [exec] at h ⊢
  split at h
  ·split at h
   ·rename_i hc;rw [if_pos hc];exact tab_exec h
   ·rename_i hc;rw [if_neg hc];exact tab_exec h
  ·simp at h
 | .block id c,env,H,r,h=>by
  simp only [exec] at h ⊢
  split at h
  ·rename_i i env' H' h1;rw [tab_exec h1];exact h
  ·rename_i hn;have h2:=tab_exec h;obtain ⟨x,e1,h1⟩:=r;rw [h2]
   cases x with
   | exit i=>exact absurd h (hn _ _ _)
   | _=>rfl
 | .loop c,env,H,r,h=>by
  simp only [exec] at h ⊢;exact tab_iter (fun _ _ _ h=>tab_exec h) _ h
 | .exit _,_,_,_,h=>h
 | .ret,_,_,_,h=>h
 | .rangeFunc _ _ _ _,_,_,_,h=>h
end
def callTab (G:Prog) (n:Nat) (fs:List Nat) (t:Tab) (f:Nat) (ps:List PV):Option PV:=match G.func f with
 | none=>none
 | some fn=>if (ps.map AV.pure).length=fn.nargs then
   match exec (tabCallee (calleeOf G n) fs t) fn.body (initEnv (ps.map .pure)) Heap.empty with
   | some (.normal,env,H')|some (.ret,env,H')=>match Vm.results env H' fn.results with
    | some v=>(freeze H' false depthF v).map (·.1)
    | none=>none
   | _=>none
  else none
theorem callP_tab {G:Prog} {n:Nat} {fs:List Nat} {t:Tab} {f:Nat} {ps:List PV} {r:PV} (hx:G.ext f=none) (hr:G.extRun f (ps.map .pure) Heap.empty=none) (ht:∀ e∈t,callP G n e.1 e.2.1=some e.2.2) (h:callTab G n fs t f ps=some r):callP G (n+1) f ps=some r:=by
 unfold callP;rw [hx];simp only;rw [call_fn,hr];unfold callTab at h
 split at h
 ·simp at h
 ·rename_i fn hfn;rw [hfn];simp only
  split at h
  ·rename_i hl;rw [if_pos hl];have key:∀ {o},exec (tabCallee (calleeOf G n) fs t) fn.body (initEnv (ps.map .pure)) Heap.empty=some o→exec (calleeOf G n) fn.body (initEnv (ps.map .pure)) Heap.empty=some o:=fun ho=>tab_exec (cl:=calleeOf G n) ht ho
   split at h
   ·rename_i env H' he;rw [key he];simp only
    split at h
    ·rename_i v hv;rw [hv];exact h
    ·simp at h
   ·rename_i env H' he;rw [key he];simp only
    split at h
    ·rename_i v hv;rw [hv];exact h
    ·simp at h
   ·simp at h
  ·simp at h
end Go.Proofs.Ytmmhnfghklppiaa.Vm

/- A run in which some calls on data are looked up in a table of calls that are known: it is the run itself. -/
import Derived.Test.YtmmhnfghklppiaaGreatQk7
namespace Go.Proofs.YtmmhnfghklppiaaGreat.Vm
open Go
set_option linter.unusedVariables false
set_option linter.unusedSimpArgs false
def zfd {α:Type} (s:α->α->Bool):List α->List α->Bool
 | [],[]=>true
 | a::l,b::m=>s a b&&zfd s l m
 | _,_=>false
theorem zd8 {α:Type} {s:α->α->Bool} (hs:∀ a b,s a b=true->a=b):∀ {l m:List α},zfd s l m=true->l=m
 | [],[],_=>rfl
 | [],_::_,h=>by simp [zfd] at h
 | _::_,[],h=>by simp [zfd] at h
 | a::l,b::m,h=>by
  simp only [zfd,Bool.and_eq_true] at h;rw [hs _ _ h.1,zd8 hs h.2]
def PV.same:Nat->PV->PV->Bool
 | 0,_,_=>false
 | n+1,p,q=>match p with
  | .int k a=>match q with
   | .int k' b=>decide (k=k')&&a == b
   | _=>false
  | .bool a=>match q with
   | .bool b=>a == b
   | _=>false
  | .agg cs=>match q with
   | .agg ds=>zfd (PV.same n) cs ds
   | _=>false
  | .nils=>match q with
   | .nils=>true
   | _=>false
  | .slice h s es=>match q with
   | .slice h' s' es'=>h == h'&&s == s'&&zfd (zfd (PV.same n)) es es'
   | _=>false
  | .func f cs=>match q with
   | .func f' cs'=>f == f'&&zfd (PV.same n) cs cs'
   | _=>false
  | _=>false
theorem zox:∀ (n:Nat) (p q:PV),p.same n q=true->p=q
 | 0,_,_,h=>by simp [PV.same] at h
 | n+1,p,q,h=>by
  have ih:=zox n;unfold PV.same at h
  split at h<;>first|(simp at h;done)|(split at h<;>first|(simp at h;done)|rfl|skip)
  ·simp at h;rw [h.1,h.2]
  ·simp at h;rw [h]
  ·rw [zd8 ih h]
  ·simp only [Bool.and_eq_true,beq_iff_eq] at h;rw [h.1.1,h.1.2,zd8 (fun _ _=>zd8 ih) h.2]
  ·simp only [Bool.and_eq_true,beq_iff_eq] at h;rw [h.1,zd8 ih h.2]
abbrev Tab:=List (Nat×List PV×PV)
def Tab.find (t:Tab) (f:Nat) (ps:List PV):Option PV:=match t with
 | []=>none
 | (g,qs,r)::t=>if g == f&&zfd (PV.same 12) qs ps then some r else Tab.find t f ps
theorem Tab.find_mem:∀ {t:Tab} {f:Nat} {ps:List PV} {r:PV},t.find f ps=some r->(f,ps,r)∈t
 | [],f,ps,r,h=>by simp [Tab.find] at h
 | (g,qs,s)::t,f,ps,r,h=>by
  simp only [Tab.find] at h
  split at h
  ·rename_i hc;simp only [Bool.and_eq_true,beq_iff_eq] at hc;simp only [Option.some.injEq] at h;rw [<- hc.1,<- zd8 (zox 12) hc.2,<- h];exact List.mem_cons_self ..
  ·exact List.mem_cons_of_mem _ (Tab.find_mem h)
def za0 (cl:Callee) (fs:List Nat) (t:Tab):Callee:={ cl with pure:=fun f ps=>if fs.contains f then t.find f ps else cl.pure f ps }
section
variable {cl:Callee} {fs:List Nat} {t:Tab} (ht:∀ e∈t,cl.pure e.1 e.2.1=some e.2.2)
include ht
theorem zrj {f:Nat} {ps:List PV} {r:PV} (h:(za0 cl fs t).pure f ps=some r):cl.pure f ps=some r:=by
 simp only [za0] at h
 split at h
 ·exact ht _ (Tab.find_mem h)
 ·exact h
theorem zlA {H:Heap} {f:AV} {xs:List AV} {e:Eff} (h:zG (za0 cl fs t) H f xs=some e):zG cl H f xs=some e:=by
 unfold zG at h ⊢;have go:∀ (g:Nat) (ys:List AV),(if (za0 cl fs t).shared g then
    match (za0 cl fs t).run g ys H with
    | some (v,H')=>some (.upd v H')
    | none=>none
   else
    match zQ (freeze H true zaF) ys with
    | none=>none
    | some (ps,ids) =>
     match (za0 cl fs t).pure g ps with
     | none=>none
     | some r=>if ids.isEmpty||r.cold then some (.val (.pure r)) else some (.upd (.pure r) (H.freeze ids)):Option Eff)=some e ->
    (if cl.shared g then
    match cl.run g ys H with
    | some (v,H')=>some (.upd v H')
    | none=>none
   else
    match zQ (freeze H true zaF) ys with
    | none=>none
    | some (ps,ids) =>
     match cl.pure g ps with
     | none=>none
     | some r=>if ids.isEmpty||r.cold then some (.val (.pure r)) else some (.upd (.pure r) (H.freeze ids)):Option Eff)=some e:=by
  intro g ys h;have e1:(za0 cl fs t).shared g=cl.shared g:=rfl;have e2:(za0 cl fs t).run g ys H=cl.run g ys H:=rfl;rw [e1,e2] at h
  split at h
  ·rename_i hs;rw [if_pos hs];exact h
  ·rename_i hs;rw [if_neg hs]
   split at h
   ·simp at h
   ·rename_i ps ids hf
    split at h
    ·simp at h
    ·rename_i r hr;simp only [zrj ht hr];exact h
 split at h
 ·exact go _ _ h
 ·exact go _ _ h
 ·exact go _ _ h
 ·exact h
 ·simp at h
theorem zrc {env:Env} {H:Heap} {op:VOp} {e:Eff} (h:step (za0 cl fs t) env H op=some e):step cl env H op=some e:=by
 cases op<;>first|exact h|skip
 case call f xs=>exact zlA ht h
 case callE f xs ls =>
  simp only [step] at h ⊢
  split at h
  ·rename_i v H2 hd;rw [zlA ht hd];exact h
  ·simp at h
theorem zky:∀ {pre:Nat} {ops:List VOper} {env:Env} {H:Heap} {r:Env×Heap},zae (za0 cl fs t) pre ops env H=some r->zae cl pre ops env H=some r
 | _,[],_,_,_,h=>h
 | pre,o::os,env,H,r,h=>by
  simp only [zae] at h ⊢
  split at h
  ·simp at h
  ·exact zky h
  ·split at h
   ·simp at h
   ·rename_i e he;rw [zrc ht he];simp only
    split at h
    ·simp at h
    ·rename_i hc;rw [if_neg hc];exact zky h
omit ht in
theorem zlB {f g:Env->Heap->Out} (hf:∀ env H r,f env H=some r->g env H=some r):∀ (m:Nat) {env:Env} {H:Heap} {r},iter f m env H=some r->iter g m env H=some r
 | 0,_,_,_,h=>by simp [iter] at h
 | m+1,env,H,r,h=>by
  simp only [iter] at h ⊢
  split at h
  ·rename_i env' H' h1;rw [hf _ _ _ h1];exact zlB hf m h
  ·rename_i hn;have h2:=hf _ _ _ h;obtain ⟨x,e1,h1⟩:=r;rw [h2]
   cases x with
   | normal=>exact absurd h (hn _ _)
   | _=>rfl
theorem zci:∀ {c:VCode} {env:Env} {H:Heap} {r},exec (za0 cl fs t) c env H=some r->exec cl c env H=some r
 | .skip,_,_,_,h=>h
 | .region pre ops,env,H,r,h=>by
  simp only [exec] at h ⊢
  split at h
  ·rename_i e' h' hr;rw [zky ht hr];exact h
  ·simp at h
 | .seq a b,env,H,r,h=>by
  simp only [exec] at h ⊢
  split at h
  ·rename_i env' H' h1;rw [zci h1];exact zci h
  ·rename_i hn;have h2:=zci h;obtain ⟨x,e1,h1⟩:=r;rw [h2]
   cases x with
   | normal=>exact absurd h (hn _ _)
   | _=>rfl
 | .cond c a b,env,H,r,h=>by
  simp only [exec] at h ⊢
  split at h
  ·split at h
   ·rename_i hc;rw [if_pos hc];exact zci h
   ·rename_i hc;rw [if_neg hc];exact zci h
  ·simp at h
 | .block id c,env,H,r,h=>by
  simp only [exec] at h ⊢
  split at h
  ·rename_i i env' H' h1;rw [zci h1];exact h
  ·rename_i hn;have h2:=zci h;obtain ⟨x,e1,h1⟩:=r;rw [h2]
   cases x with
   | exit i=>exact absurd h (hn _ _ _)
   | _=>rfl
 | .loop c,env,H,r,h=>by
  simp only [exec] at h ⊢;exact zlB (fun _ _ _ h=>zci h) _ h
 | .exit _,_,_,_,h=>h
 | .ret,_,_,_,h=>h
 | .rangeFunc _ _ _ _,_,_,_,h=>h
end
def zon (G:Prog) (n:Nat) (fs:List Nat) (t:Tab) (f:Nat) (ps:List PV):Option PV:=match G.func f with
 | none=>none
 | some fn=>if (ps.map AV.pure).length=fn.nargs then
   match exec (za0 (zm G n) fs t) fn.body (za (ps.map .pure)) Heap.empty with
   | some (.normal,env,H')|some (.ret,env,H')=>match Vm.results env H' fn.results with
    | some v=>(freeze H' false zaF v).map (·.1)
    | none=>none
   | _=>none
  else none
theorem zgI {G:Prog} {n:Nat} {fs:List Nat} {t:Tab} {f:Nat} {ps:List PV} {r:PV} (hx:G.ext f=none) (hr:G.extRun f (ps.map .pure) Heap.empty=none) (ht:∀ e∈t,zH G n e.1 e.2.1=some e.2.2) (h:zon G n fs t f ps=some r):zH G (n+1) f ps=some r:=by
 unfold zH;rw [hx];simp only;rw [zkF,hr];unfold zon at h
 split at h
 ·simp at h
 ·rename_i fn hfn;rw [hfn];simp only
  split at h
  ·rename_i hl;rw [if_pos hl];have key:∀ {o},exec (za0 (zm G n) fs t) fn.body (za (ps.map .pure)) Heap.empty=some o->exec (zm G n) fn.body (za (ps.map .pure)) Heap.empty=some o:=fun ho=>zci (cl:=zm G n) ht ho
   split at h
   ·rename_i env H' he;rw [key he];simp only
    split at h
    ·rename_i v hv;rw [hv];exact h
    ·simp at h
   ·rename_i env H' he;rw [key he];simp only
    split at h
    ·rename_i v hv;rw [hv];exact h
    ·simp at h
   ·simp at h
  ·simp at h
end Go.Proofs.YtmmhnfghklppiaaGreat.Vm

/- A region that draws its order: the walk in the order of the text serves for every order. Own work; no statement of the seat is proved here. A region that draws its order: every order. Own work; no statement of the seat is proved here. A contract with owned blocks at a call: its ids are renamed to the caller's. Own work; no statement of the seat is proved here. -/
import Derived.Test.YtebndjnkmcahaaaGreatDoorAbsP
namespace Go.Abs
set_option linter.unusedSimpArgs false
set_option linter.unusedVariables false
open Go Go.RowKit
variable {P : Program}
structure FS where
 n:Nat
 sl:Nat→AV
 hp:ba
 al:Nat→Prop
def AS.fs (st:AS):FS:=⟨st.n,lk st.sl,hget st.hp,fun i=>i<st.nx⟩
def evF (fs:FS):Operand→AV
 | .tmp t=>fs.sl t
 | .const v=>match eI v with|true=>fI v|false => .any
 | .func f => .p (.v (.func (.func f) #[] #[]))
 | .global g=>match ku g with|some cs => .cp (cs.map .v)|none => .any
theorem Gm (st:AS) (x:Operand):evF st.fs x=ev st x:=by cases x<;>rfl
structure ConcF (c:Ctx) (ρ:am) (F:aA) (fs:FS) (a:Act) (w:World):Prop where
 defers:a.defers=[]
 size:a.tmps.size=fs.n
 slots:∀s,Rd ρ F w (fs.sl s) (a.tmps.getD s undef)
 heap:HpOk ρ F w fs.hp
 fresh:∀i,¬fs.al i→ρ i=none
 fok:FOk F w
 chg:Chg c.O c.F0 F c.w0 w
 dom:∀i,fs.hp i≠none→fs.al i
 own:∀i b,fs.hp i≠none→ρ i=some b→c.w0.heap.size≤b∨c.O b
 keep:∀i b,c.ρ0 i=some b→ρ i=some b
 glob:GlobOk F w
theorem Conc.toF {c:Ctx} {ρ:am} {F:aA} {st:AS} {a:Act} {w:World} (h:Conc c ρ F st a w):ConcF c ρ F st.fs a w :=
 ⟨h.defers,h.size,h.slots,h.heap,fun i hi=>h.fresh i (by simpa [AS.fs] using hi),h.fok,h.chg,h.dom,h.own,h.keep,h.glob⟩
theorem ConcF.ofF {c:Ctx} {ρ:am} {F:aA} {st:AS} {a:Act} {w:World} (h:ConcF c ρ F st.fs a w):Conc c ρ F st a w :=
 ⟨h.defers,h.size,h.slots,h.heap,fun i hi=>h.fresh i (by simpa [AS.fs] using hi),h.fok,h.chg,h.dom,h.own,h.keep,h.glob⟩
def putF (fs:FS) (d:Option Nat) (v:AV):FS :=
 { fs with sl:=fun s=>match d with
    | some d=>if d=s∧d<fs.n then v else fs.sl s
    | none=>fs.sl s }
def Bk (fs:FS) (d:Option Nat) (v:AV) (u:List (Nat×Option Blk)):FS :=
 putF ⟨fs.n,fs.sl,updH u fs.hp,fun i=>fs.al i∨i∈keys u⟩ d v
inductive Stp where
 | run (v:AV) (T:List Nat) (u:List (Nat×Option Blk))
 | skip
def fL (o:Oper) (fs:FS):Stp→FS
 | .run v _ u=>Bk fs o.dst v u
 | .skip=>putF fs o.dst .any
def Stp.T:Stp→List Nat
 | .run _ T _=>T
 | .skip=>[]
def Stp.K:Stp→List Nat
 | .run _ _ u=>keys u
 | .skip=>[]
def wantF (all:Array Oper) (o:Oper) (fs:FS) (b:Bool):Prop :=
 match o.guard with
 | none=>b=true
 | some (j,want)=>∃d g,(all[j]?).bind (·.dst)=some d∧fs.sl d = .b g∧b=decide (g=want)
def OpF (P:Program) (o:Oper) (fs:FS) (v:AV) (T:List Nat) (u:List (Nat×Option Blk)):Prop :=
 ∀(ρ:am) (F:aA) (a:Act) (w:World),Pre ρ F w T u fs.hp→(∀x,x∈o.op.operands.toList→Rd ρ F w (evF fs x) (a.eval x)) →
  ∀(K:Act→World→Prop) (Q:Exit→Act→World→Prop),(∀x ρ' F' w',Post ρ F w T u fs.hp v x ρ' F' w'→K (a.put o.dst x) w')→o.wp P a w K Q
def oS (P:Program) (all:Array Oper) (o:Oper) (fs:FS):Stp→Prop
 | .run v T u=>wantF all o fs true∧OpF P o fs v T u∧(∀i,i∈keys u→i∈T∨¬fs.al i)∧(∀i,i∈T→fs.hp i≠none)
 | .skip=>wantF all o fs false
def RunF (P:Program) (all:Array Oper):List (Nat×Oper×Stp)→FS→FS→Prop
 | [],fs,fe=>fs=fe
 | (_,o,s)::L,fs,fe=>oS P all o fs s∧RunF P all L (fL o fs s) fe
structure oT (all:Array Oper) (o o':Oper) (s s':Stp):Prop where
 ap:o.apart all o'=true
 k1:∀i,i∈s.K→i∉s'.T∧i∉s'.K
 k2:∀i,i∈s'.K→i∉s.T
theorem Eb {fs:FS} {d:Option Nat} {v:AV} {x:Operand} (h:∀e,d=some e→x ≠ .tmp e):evF (putF fs d v) x=evF fs x:=by
 cases x with
 | tmp t =>
  simp only [evF,putF]
  cases d with
  | none=>rfl
  | some e =>
   have:¬e=t:=fun he=>h e rfl (he ▸ rfl)
   simp [this]
 | _=>rfl
theorem Bl (o:Oper) (fs:FS) (s:Stp):∃v,∀t,(fL o fs s).sl t=(putF fs o.dst v).sl t:=by
 cases s with
 | run v T u=>exact⟨v,fun t=>rfl⟩
 | skip=>exact⟨.any,fun t=>rfl⟩
theorem Ec {o:Oper} {fs:FS} {s:Stp} {x:Operand} (h:∀e,o.dst=some e→x ≠ .tmp e):evF (fL o fs s) x=evF fs x:=by
 obtain⟨v,hv⟩:=Bl o fs s
 have e:evF (fL o fs s) x=evF (putF fs o.dst v) x:=by cases x<;>simp [evF,hv]
 rw [e,Eb h]
theorem oU {o:Oper} {fs:FS} {s:Stp} {i:Nat} (h:i∉s.K):(fL o fs s).hp i=fs.hp i:=by
 cases s with
 | run v T u =>
  have h':i∉keys u:=h
  simp only [fL,Bk,putF,updH,if_neg h']
 | skip=>rfl
theorem FZ (o:Oper) (fs:FS) (s:Stp):(fL o fs s).n=fs.n:=by cases s<;>rfl
theorem wB {o:Oper} {fs:FS} {s:Stp} {i:Nat}:(fL o fs s).al i↔fs.al i∨i∈s.K:=by
 cases s with
 | run v T u=>exact Iff.rfl
 | skip=>simp [fL,putF,Stp.K]
theorem OpF.congr {o:Oper} {fs fs':FS} {v:AV} {T:List Nat} {u:List (Nat×Option Blk)} (h:OpF P o fs v T u) (he:∀x,x∈o.op.operands.toList→evF fs' x=evF fs x) (hh:∀i,i∈T→fs'.hp i=fs.hp i):OpF P o fs' v T u:=by
 intro ρ F a w hpre hin K Q hK
 have e1:restr T fs'.hp=restr T fs.hp:=by funext i;unfold restr;split;exact hh i ‹_›;rfl
 have e2:∀i,restr (T++keys u) (updH u fs'.hp) i=restr (T++keys u) (updH u fs.hp) i:=by
  intro i
  unfold restr updH
  by_cases hk:i∈keys u
  ·simp [hk]
  ·by_cases hT:i∈T
   ·simp [hk,hT,hh i hT]
   ·simp [hk,hT]
 refine h ρ F a w ⟨hpre.fok,by rw [← e1];exact hpre.hp,hpre.fresh,hpre.glob⟩ (fun x hx=>by rw [← he x hx];exact hin x hx) K Q (fun x ρ' F' w' hp=>hK x ρ' F' w' ⟨hp.rho,hp.new,hp.blk,hp.rd,?_,hp.fok,hp.chg⟩)
 have:restr (T++keys u) (updH u fs'.hp)=restr (T++keys u) (updH u fs.hp):=funext e2
 rw [this]
 exact hp.hp
theorem wantF.congr {all:Array Oper} {o:Oper} {fs fs':FS} {b:Bool} (h:wantF all o fs b) (he:∀j want d,o.guard=some (j,want)→(all[j]?).bind (·.dst)=some d→fs'.sl d=fs.sl d):wantF all o fs' b:=by
 unfold wantF at h ⊢
 cases hg:o.guard with
 | none=>rw [hg] at h;exact h
 | some p =>
  obtain⟨j,want⟩:=p
  rw [hg] at h
  obtain⟨d,g,hd,hs,hb⟩:=h
  exact⟨d,g,hd,by rw [he j want d hg hd];exact hs,hb⟩
theorem Bm {all:Array Oper} {o o':Oper} (h:∀d,o.dst=some d→d∉o'.looksAt all) (fs:FS) (s:Stp) :
 (∀x,x∈o'.op.operands.toList→evF (fL o fs s) x=evF fs x)∧(∀j want d,o'.guard=some (j,want)→(all[j]?).bind (·.dst)=some d→(fL o fs s).sl d=fs.sl d):=by
 refine⟨fun x hx=>Ec (fun e he hxe=>?_),fun j want d hg hd=>?_⟩
 ·subst hxe
  refine h e he ?_
  unfold Oper.looksAt
  refine List.mem_append_left _ (List.mem_filterMap.2 ⟨_,hx,rfl⟩)
 ·obtain⟨v,hv⟩:=Bl o fs s
  rw [hv]
  simp only [putF]
  cases hdst:o.dst with
  | none=>rfl
  | some e =>
   have hne:¬e=d:=fun he=>by
    subst he
    refine h e hdst ?_
    unfold Oper.looksAt
    refine List.mem_append_right _ ?_
    rw [hg]
    simp [hd]
   simp [hne]
theorem q5 {all:Array Oper} {o o':Oper} {fs:FS} {s s':Stp} (hr:∀d,o.dst=some d→d∉o'.looksAt all) (hT:∀i,i∈s.K→i∉s'.T) (hK:∀i,i∈s.K→i∉s'.K) :
 oS P all o' fs s'↔oS P all o' (fL o fs s) s':=by
 obtain⟨h1,h2⟩:=Bm hr fs s
 have hh:∀i,i∈s'.T→(fL o fs s).hp i=fs.hp i:=fun i hi=>oU (fun hk=>hT i hk hi)
 cases s' with
 | skip=>exact⟨fun h=>h.congr h2,fun h=>h.congr (fun j w d a b=>(h2 j w d a b).symm)⟩
 | run v T u =>
  refine⟨fun ⟨a,b,c,d⟩=>⟨a.congr h2,b.congr h1 hh,fun i hi=>?_,fun i hi=>by rw [hh i hi];exact d i hi⟩,
   fun ⟨a,b,c,d⟩=>⟨a.congr (fun j w d a b=>(h2 j w d a b).symm),b.congr (fun x hx=>(h1 x hx).symm) (fun i hi=>(hh i hi).symm),fun i hi=>?_,fun i hi=>by rw [← hh i hi];exact d i hi⟩⟩
  ·rcases c i hi with h3|h3
   ·exact .inl h3
   ·exact .inr (fun h4=>by rcases wB.1 h4 with h5|h5;exact h3 h5;exact hK i h5 hi)
  ·rcases c i hi with h3|h3
   ·exact .inl h3
   ·exact .inr (fun h4=>h3 (wB.2 (.inl h4)))
theorem FS.ext' {a b:FS} (h1:a.n=b.n) (h2:∀s,a.sl s=b.sl s) (h3:∀i,a.hp i=b.hp i) (h4:∀i,a.al i↔b.al i):a=b:=by
 cases a;cases b
 simp only at h1 h2 h3 h4
 subst h1
 have:∀{α:Type} {f g:Nat→α},(∀s,f s=g s)→f=g:=fun h=>funext h
 rw [this h2,this h3,this (fun i=>propext (h4 i))]
theorem Bn {all:Array Oper} {o o':Oper} {fs:FS} {s s':Stp} (hi:oT all o o' s s'):fL o' (fL o fs s) s'=fL o (fL o' fs s') s:=by
 obtain⟨ha,hb,hc⟩:=Oper.apart_spec hi.ap
 refine FS.ext' (by simp [FZ]) (fun t=>?_) (fun i=>?_) (fun i=>?_)
 ·
  have key:∀(o:Oper) (s:Stp),∃v,∀fs t,(fL o fs s).sl t=match o.dst with|some d=>if d=t∧d<fs.n then v else fs.sl t|none=>fs.sl t:=by
   intro o s
   cases s with
   | run v T u=>exact⟨v,fun fs t=>rfl⟩
   | skip=>exact⟨.any,fun fs t=>rfl⟩
  obtain⟨v,hv⟩:=key o s
  obtain⟨v',hv'⟩:=key o' s'
  rw [hv',hv]
  simp only [hv,hv',FZ]
  cases hd:o.dst with
  | none=>rfl
  | some d =>
   cases hd':o'.dst with
   | none=>rfl
   | some d' =>
    have hne:d≠d':=fun e=>hb d hd (by rw [hd',e])
    by_cases h1:d=t
    ·subst h1
     have hne':¬d'=d:=fun e=>hne e.symm
     simp [hne']
    ·simp [h1]
 ·by_cases h1:i∈s.K
  ·have h2:i∉s'.K:=(hi.k1 i h1).2
   rw [oU h2]
   cases s with
   | run v T u =>
    have h1':i∈keys u:=h1
    show updH u fs.hp i=updH u (fL o' fs s').hp i
    simp only [updH,if_pos h1']
   | skip=>cases h1
  ·rw [oU (o:=o) (s:=s) h1]
   cases s' with
   | run v T u =>
    show updH u (fL o fs s).hp i=updH u fs.hp i
    unfold updH
    by_cases h2:i∈keys u
    ·rw [if_pos h2,if_pos h2]
    ·rw [if_neg h2,if_neg h2];exact oU h1
   | skip=>exact oU h1
 ·simp only [wB]
  constructor
  ·rintro ((h|h)|h)<;>simp [h]
  ·rintro ((h|h)|h)<;>simp [h]
theorem zm {all:Array Oper} {x:Nat×Oper×Stp}:∀(L1 L2:List (Nat×Oper×Stp)) (fs fe:FS),(∀y,y∈L1→oT all y.2.1 x.2.1 y.2.2 x.2.2)→RunF P all (L1++x::L2) fs fe→RunF P all (x::(L1++L2)) fs fe:=by
 intro L1
 induction L1 with
 | nil=>intro L2 fs fe _ h;exact h
 | cons y L1 ih =>
  intro L2 fs fe hi h
  obtain⟨iy,oy,sy⟩:=y
  obtain⟨ix,ox,sx⟩:=x
  obtain⟨hy,hrest⟩:=h
  obtain⟨hx,hrest'⟩:=ih L2 _ fe (fun z hz=>hi z (List.mem_cons_of_mem _ hz)) hrest
  have hind:=hi (iy,oy,sy) (by simp)
  simp only at hind
  obtain⟨ha,hb,hc⟩:=Oper.apart_spec hind.ap
  have hx':oS P all ox fs sx:=(q5 ha (fun i hi=>(hind.k1 i hi).1) (fun i hi=>(hind.k1 i hi).2)).2 hx
  have hy':oS P all oy (fL ox fs sx) sy:=(q5 hc (fun i hi=>hind.k2 i hi) (fun i hi hi'=>(hind.k1 i hi').2 hi)).1 hy
  refine⟨hx',hy',?_⟩
  rw [← Bn hind]
  exact hrest'
end Go.Abs
namespace Go.Abs
set_option linter.unusedSimpArgs false
set_option linter.unusedVariables false
open Go Go.RowKit
theorem ConcF.ev {c:Ctx} {ρ:am} {F:aA} {fs:FS} {a:Act} {w:World} (h:ConcF c ρ F fs a w) (x:Operand):Rd ρ F w (evF fs x) (a.eval x):=by
 cases x with
 | tmp t=>exact h.slots t
 | const v =>
  simp only [evF,Act.eval]
  cases v with
  | agg cs =>
   cases hc:eI (.agg cs) with
   | false=>exact .any _
   | true =>
    simp only [fI]
    refine .agg _ _ (by simp) (fun j x hj=>?_)
    simp only [List.getElem?_map,Option.map_eq_some_iff] at hj
    obtain⟨y,hy,rfl⟩:=hj
    have hy':cs[j]?=some y:=by simpa using hy
    have:cs.getD j undef=y:=by simp [Array.getD_eq_getD_getElem?,hy']
    rw [this]
    refine .p _ _ (.v _ ?_)
    simp only [eI,List.all_eq_true] at hc
    exact hc y (List.mem_of_getElem? hy)
  | tuple vs=>simp only [eI,fI];exact .any _
  | _=>simp only [eI,fI];exact .p _ _ (.v _ rfl)
 | global g =>
  show Rd ρ F w (match ku g with|some cs => .cp (cs.map .v)|none => .any) (.pointer (some ⟨g,0,none⟩))
  cases hg:ku g with
  | none=>exact .any _
  | some cs=>exact h.glob.rd hg
 | func f=>exact .p _ _ (.v _ rfl)
theorem ConcF.putF {c:Ctx} {ρ:am} {F:aA} {fs:FS} {a:Act} {w:World} (h:ConcF c ρ F fs a w) (d:Option Nat) {v:AV} {x:Value} (hv:Rd ρ F w v x):ConcF c ρ F (Abs.putF fs d v) (a.put d x) w:=by
 refine⟨?_,?_,fun s=>?_,h.heap,h.fresh,h.fok,h.chg,h.dom,h.own,h.keep,h.glob⟩
 ·cases d<;>simp [Act.put,h.defers]
 ·show (a.put d x).tmps.size=fs.n
  rw [← h.size];cases d<;>simp [Act.put]
 ·have hold:=h.slots s
  cases d with
  | none=>exact hold
  | some d =>
   simp only [Abs.putF,Act.put]
   by_cases hd:d=s∧d<fs.n
   ·obtain⟨rfl,hlt⟩:=hd
    have:d<a.tmps.size:=by rw [h.size];exact hlt
    simp [Array.getD_eq_getD_getElem?,this,hlt]
    exact hv
   ·rw [if_neg hd]
    by_cases he:d=s
    ·have hge:a.tmps.size≤d:=by rw [h.size];omega
     simp only [Array.setIfInBounds_eq_of_size_le hge]
     exact hold
    ·simpa [Array.getD_eq_getD_getElem?,Array.getElem?_setIfInBounds_ne he] using hold
theorem Bo {P:Program} {o:Oper} {fs:FS} {v:AV} {T:List Nat} {u:List (Nat×Option Blk)} (ho:OpF P o fs v T u) (hkeys:∀i,i∈keys u→i∈T∨¬fs.al i) (hlive:∀i,i∈T→fs.hp i≠none)
 {c:Ctx} {ρ:am} {F:aA} {a:Act} {w:World} (h:ConcF c ρ F fs a w) (K:Act→World→Prop) (Q:Exit→Act→World→Prop)
 (hK:∀ ρ' F' a' w',ConcF c ρ' F' (Bk fs o.dst v u) a' w'→K a' w'):o.wp P a w K Q:=by
 have hfr:∀i,i∈keys u→i∉T→ρ i=none:=fun i hi hT=>h.fresh i (by rcases hkeys i hi with h1|h1;exact absurd h1 hT;exact h1)
 have hpre:Pre ρ F w T u fs.hp:=⟨h.fok,h.heap.restr T,hfr,h.glob⟩
 refine ho ρ F a w hpre (fun x _=>h.ev x) K Q (fun x ρ' F' w' hp=>hK ρ' F' _ w' ?_)
 have hheap:=Post.frame h.heap h.fok hfr hlive hp
 have hO:∀b,OSet ρ (keys u) b→c.O b∨c.w0.heap.size≤b:=by
  rintro b ⟨i,hi,hb⟩
  have hT:i∈T:=by
   by_cases hT:i∈T
   ·exact hT
   ·rw [hfr i hi hT] at hb;cases hb
  rcases h.own i b (hlive i hT) hb with h1|h1
  ·exact .inr h1
  ·exact .inl h1
 have h1:ConcF c ρ' F' ⟨fs.n,fs.sl,updH u fs.hp,fun i=>fs.al i∨i∈keys u⟩ a w':=by
  refine⟨h.defers,h.size,fun s=>Post.keep hpre hlive hp (h.slots s),hheap,fun i hi=>?_,hp.fok,h.chg.trans hp.chg hO,fun i hi=>?_,fun i b hi hb=>?_,fun i b hb=>hp.rho i b (h.keep i b hb),Post.glob hpre hlive hp⟩
  ·have h0:=h.fresh i (fun h2=>hi (.inl h2))
   cases hr:ρ' i with
   | none=>rfl
   | some b=>exact absurd (.inr (hp.new i h0 (by rw [hr];simp))) hi
  ·by_cases hk:i∈keys u
   ·exact .inr hk
   ·simp only [updH,if_neg hk] at hi
    exact .inl (h.dom i hi)
  ·cases hr:ρ i with
   | some b' =>
    have:=hp.rho i b' hr
    rw [hb] at this;cases this
    by_cases hn:fs.hp i=none
    ·have hk:i∈keys u:=by
      by_cases hk:i∈keys u
      ·exact hk
      ·exact absurd (by simp only [updH,if_neg hk];exact hn) hi
     rcases hkeys i hk with h2|h2
     ·exact absurd hn (hlive i h2)
     ·rw [h.fresh i h2] at hr;cases hr
    ·exact h.own i b hn hr
   | none =>
    rcases hp.blk i b hr hb with h2|h2
    ·exact .inl (Nat.le_trans h.chg.size h2)
    ·rcases hO b h2 with h3|h3
     ·exact .inr h3
     ·exact .inl h3
 exact h1.putF o.dst hp.rd
theorem uv {c:Ctx} {ρ:am} {F:aA} {fs:FS} {a:Act} {w:World} (h:ConcF c ρ F fs a w) {all:Array Oper} {o:Oper} {b:Bool} (hw:wantF all o fs b):Region.wanted o (yielded all a.tmps)=b:=by
 unfold wantF at hw
 unfold Region.wanted
 cases hg:o.guard with
 | none=>rw [hg] at hw;subst hw;rfl
 | some p =>
  obtain⟨j,want⟩:=p
  rw [hg] at hw
  obtain⟨d,g,hd,hs,rfl⟩:=hw
  have hsl:=h.slots d
  rw [hs] at hsl
  have hpv:=hsl.pv
  have hlt:d<a.tmps.size:=by
   rcases Nat.lt_or_ge d a.tmps.size with h1|h1
   ·exact h1
   ·simp [Array.getD_eq_getD_getElem?,Array.getElem?_eq_none h1,undef] at hpv
  have hget':a.tmps[d]?=some (.bool g):=by
   have:a.tmps.getD d undef=a.tmps[d]:=by simp [Array.getD,hlt]
   rw [Array.getElem?_eq_getElem hlt,←this,hpv]
  have hy:yielded all a.tmps j=some g:=by
   unfold yielded
   rw [hd]
   simp [hget']
  simp only [hy]
  cases g<;>cases want<;>rfl
def gJ (o:Oper) (i:Nat):Bool:=o.after.toList.any fun e=>Region.binds .any e&&Nat.beq e.on i
inductive TP (all:Array Oper):Nat→Nat→Prop
 | one {j i:Nat} {o:Oper} (h:all[i]?=some o) (he:gJ o j=true):TP all j i
 | more {j k i:Nat} {o:Oper} (hk:TP all j k) (h:all[i]?=some o) (he:gJ o k=true):TP all j i
def xR (all:Array Oper) (listed:Array Bool):Prop:=∀i o,all[i]?=some o→listed.getD i false=true→∀j,gJ o j=true→listed.getD j false=true
theorem TP.listed {all:Array Oper} {listed:Array Bool} (hc:xR all listed) {j i:Nat} (h:TP all j i):(∀o,all[i]?=some o→∀k,gJ o k=true→listed.getD k false=true)→listed.getD j false=true:=by
 induction h with
 | one h he=>intro hr;exact hr _ h _ he
 | more hk h he ih =>
  intro hr
  have h1:=hr _ h _ he
  exact ih (fun o ho k hk'=>hc _ o ho h1 k hk')
theorem Bp {c:Ctx} {all:Array Oper} {Q:Exit→Act→World→Prop} {fe:FS} (hQ:∀ ρ F a w,ConcF c ρ F fe a w→Q .normal a w) :
 ∀(fuel:Nat) (L:List (Nat×Oper×Stp)) (fs:FS) (ρ:am) (F:aA) (a:Act) (w:World) (listed:Array Bool),ConcF c ρ F fs a w→RunF c.P all L fs fe →
  L.Pairwise (fun x y=>x.1<y.1)→(∀x,x∈L→all[x.1]?=some x.2.1)→L.Pairwise (fun x y=>oT all x.2.1 y.2.1 x.2.2 y.2.2∨TP all x.1 y.1) →
  (∀x,x∈L→∀i,gJ x.2.1 i=true→i<x.1)→xR all listed→listed.size=all.size→(∀i,i<all.size→(listed.getD i true=false↔∃x,x∈L∧x.1=i))→L.length≤fuel →
  wpAny c.P .any all Q fuel listed a w:=by
 intro fuel
 have notReady:∀(L:List (Nat×Oper×Stp)) (listed:Array Bool),L.Pairwise (fun x y=>x.1<y.1)→(∀x,x∈L→all[x.1]?=some x.2.1)→(∀x,x∈L→∀i,gJ x.2.1 i=true→i<x.1) →
  listed.size=all.size→(∀i,i<all.size→(listed.getD i true=false↔∃x,x∈L∧x.1=i))→Region.ready .any all listed=[]→L=[]:=by
  intro L listed hs hall hedge hsz hl hr
  cases L with
  | nil=>rfl
  | cons x L =>
   exfalso
   have hx:=hall x (by simp)
   have hlt:x.1<all.size:=(Array.getElem?_eq_some_iff.1 hx).1
   have:x.1∈Region.ready .any all listed:=by
    unfold Region.ready
    rw [List.mem_filter]
    refine⟨by simpa using hlt,?_⟩
    have h1:listed.getD x.1 true=false:=(hl x.1 hlt).2 ⟨x,by simp,rfl⟩
    simp only [h1,Bool.not_false,Bool.true_and,hx,Option.map_some,Option.getD_some,Array.all_eq_true_iff_forall_mem,Bool.or_eq_true,Bool.not_eq_true']
    intro e he
    by_cases hb:Region.binds .any e=true
    ·right
     have hei:gJ x.2.1 e.on=true:=by
      unfold gJ
      rw [List.any_eq_true]
      exact⟨e,by simpa using he,by simp [hb]⟩
     have hlt':=hedge x (by simp) e.on hei
     have hsz':e.on<all.size:=by omega
     cases hg:listed.getD e.on false with
     | true=>rfl
     | false =>
      exfalso
      have hg':listed.getD e.on true=false:=by
       have:e.on<listed.size:=by omega
       simp [Array.getD,this] at hg ⊢
       exact hg
      obtain⟨y,hy,hye⟩:=(hl e.on hsz').1 hg'
      rcases List.mem_cons.1 hy with rfl|hy
      ·omega
      ·have:=(List.pairwise_cons.1 hs).1 y hy
       omega
    ·left
     simpa using hb
   rw [hr] at this
   cases this
 induction fuel with
 | zero =>
  intro L fs ρ F a w listed hc hrun hs hall hpair hedge hcl hsz hl hlen
  have hL:L=[]:=List.eq_nil_of_length_eq_zero (by omega)
  subst hL
  refine⟨?_,hQ ρ F a w (by have:fs=fe:=hrun;rw [← this];exact hc)⟩
  unfold Region.ready
  rw [List.filter_eq_nil_iff]
  intro i hi
  have hlt:i<all.size:=by simpa using hi
  have:listed.getD i true=true:=by
   cases hg:listed.getD i true with
   | true=>rfl
   | false=>obtain⟨x,hx,_⟩:=(hl i hlt).1 hg;cases hx
  simp [this]
 | succ fuel ih =>
  intro L fs ρ F a w listed hc hrun hs hall hpair hedge hcl hsz hl hlen
  refine⟨fun hr=>?_,fun i hi=>?_⟩
  ·have hL:=notReady L listed hs hall hedge hsz hl hr
   subst hL
   exact hQ ρ F a w (by have:fs=fe:=hrun;rw [← this];exact hc)
  ·
   unfold Region.ready at hi
   rw [List.mem_filter] at hi
   obtain⟨hlt,hcond⟩:=hi
   have hlt':i<all.size:=by simpa using hlt
   simp only [Bool.and_eq_true,Bool.not_eq_true'] at hcond
   obtain⟨hnl,hafter⟩:=hcond
   obtain⟨x,hx,hxi⟩:=(hl i hlt').1 hnl
   obtain⟨L1,L2,rfl⟩:=List.append_of_mem hx
   have hox:=hall x hx
   have hdir:∀o,all[x.1]?=some o→∀k,gJ o k=true→listed.getD k false=true:=by
    intro o ho k hk
    rw [hox] at ho
    cases ho
    unfold gJ at hk
    rw [List.any_eq_true] at hk
    obtain⟨e,he,hee⟩:=hk
    simp only [Bool.and_eq_true] at hee
    have heo:=Nat.eq_of_beq_eq_true hee.2
    rw [← hxi,hox] at hafter
    simp only [Option.map_some,Option.getD_some,Array.all_eq_true_iff_forall_mem,Bool.or_eq_true,Bool.not_eq_true'] at hafter
    rcases hafter e (by simpa using he) with h1|h1
    ·rw [hee.1] at h1;cases h1
    ·rw [← heo];exact h1
   have hind:∀y,y∈L1→oT all y.2.1 x.2.1 y.2.2 x.2.2:=by
    intro y hy
    have hp:=(List.pairwise_append.1 hpair).2.2 y hy x (by simp)
    rcases hp with hp|hp
    ·exact hp
    ·exfalso
     have h1:=hp.listed hcl hdir
     have hyl:y.1<all.size:=(Array.getElem?_eq_some_iff.1 (hall y (by simp [hy]))).1
     have:=(hl y.1 hyl).2 ⟨y,by simp [hy],rfl⟩
     have hsy:y.1<listed.size:=by omega
     simp [Array.getD,hsy] at h1 this
     rw [h1] at this;cases this
   have hrun':=zm L1 L2 fs fe hind hrun
   obtain⟨ix,ox,sx⟩:=x
   simp only at hxi hox
   subst hxi
   obtain⟨hstp,hrest⟩:=hrun'
   have hsub:(L1++L2).Sublist (L1++(ix,ox,sx)::L2):=List.Sublist.append (List.Sublist.refl _) (List.sublist_cons_self _ _)
   have hnext:∀ ρ' F' a' w',ConcF c ρ' F' (fL ox fs sx) a' w'→wpAny c.P .any all Q fuel (listed.setIfInBounds ix true) a' w':=by
    intro ρ' F' a' w' hc'
    refine ih (L1++L2) _ ρ' F' a' w' _ hc' hrest (hs.sublist hsub) (fun y hy=>hall y (hsub.mem hy)) (hpair.sublist hsub) (fun y hy=>hedge y (hsub.mem hy)) ?_ (by simpa using hsz) (fun j hj=>?_) (by simp at hlen ⊢;omega)
    ·intro j o ho hj k hk
     have hmono:∀k,listed.getD k false=true→(listed.setIfInBounds ix true).getD k false=true:=by
      intro k hk
      by_cases he:ix=k
      ·subst he
       have:ix<listed.size:=by omega
       simp [Array.getD,this]
      ·simpa [Array.getD_eq_getD_getElem?,Array.getElem?_setIfInBounds_ne he] using hk
     by_cases hji:j=ix
     ·subst hji
      exact hmono k (hdir o ho k hk)
     ·have:listed.getD j false=true:=by
       simpa [Array.getD_eq_getD_getElem?,Array.getElem?_setIfInBounds_ne (fun e=>hji e.symm)] using hj
      exact hmono k (hcl j o ho this k hk)
    by_cases hji:j=ix
    ·subst hji
     have hjs:j<listed.size:=by omega
     simp [Array.getD,hjs]
     intro y1 y2
     rw [List.pairwise_append] at hs
     obtain⟨_,hs2,hs3⟩:=hs
     refine⟨fun hy=>?_,fun hy=>?_⟩
     ·have:=hs3 _ hy _ (List.mem_cons_self ..);simp at this
     ·have:=(List.pairwise_cons.1 hs2).1 _ hy;simp at this
    ·have hjs:j<listed.size:=by omega
     have e:(listed.setIfInBounds ix true).getD j true=listed.getD j true:=by
      simp [Array.getD_eq_getD_getElem?,Array.getElem?_setIfInBounds_ne (fun e=>hji e.symm)]
     rw [e,hl j hj]
     constructor
     ·rintro⟨y,hy,hyj⟩
      refine⟨y,?_,hyj⟩
      rcases List.mem_append.1 hy with h1|h1
      ·exact List.mem_append_left _ h1
      ·rcases List.mem_cons.1 h1 with h2|h2
       ·subst h2;exact absurd hyj.symm hji
       ·exact List.mem_append_right _ h2
     ·rintro⟨y,hy,hyj⟩
      exact⟨y,hsub.mem hy,hyj⟩
   unfold wpOp
   rw [hox]
   simp only
   cases sx with
   | run v T u =>
    obtain⟨hw,hop,hk,hlv⟩:=hstp
    rw [if_pos (uv hc hw)]
    exact .inl (Bo hop hk hlv hc _ _ hnext)
   | skip =>
    have hw:wantF all ox fs false:=hstp
    have:=uv hc hw
    rw [if_neg (by rw [this];simp)]
    exact hnext ρ F _ w (hc.putF ox.dst (.any _))
abbrev FP:=List Nat×List Nat
def Stp.fp (s:Stp):FP:=(s.T,s.K)
def zn:List Nat→List Nat→Bool
 | [],_=>false
 | k::r,l=>match iF l k with|true=>true|false=>zn r l
def oV:List Nat→List Nat→List Nat
 | [],l=>l
 | k::r,l=>match iF l k with|true=>oV r l|false=>oV r (k::l)
def nth:List (List Nat)→Nat→List Nat
 | [],_=>[]
 | x::_,0=>x
 | _::r,i+1=>nth r i
def Bq (acc:List (List Nat)):List Edge→List Nat
 | []=>[]
 | e::r=>match Region.binds .any e with
  | true=>oV (e.on::nth acc e.on) (Bq acc r)
  | false=>Bq acc r
def clo:List Oper→List (List Nat)→List (List Nat)
 | [],acc=>acc
 | o::os,acc=>clo os (acc++[Bq acc o.after.toList])
theorem wC:∀(a b:List Nat) (x:Nat),x∈oV a b→x∈a∨x∈b:=by
 intro a
 induction a with
 | nil=>intro b x h;exact .inr h
 | cons k r ih =>
  intro b x h
  unfold oV at h
  split at h
  ·rcases ih _ _ h with h1|h1
   ·exact .inl (List.mem_cons_of_mem _ h1)
   ·exact .inr h1
  ·rcases ih _ _ h with h1|h1
   ·exact .inl (List.mem_cons_of_mem _ h1)
   ·rcases List.mem_cons.1 h1 with rfl|h1
    ·exact .inl (by simp)
    ·exact .inr h1
theorem xS (l:List (List Nat)) (i:Nat):nth l i=(l[i]?).getD []:=by
 induction l generalizing i with
 | nil=>simp [nth]
 | cons x r ih=>cases i<;>simp [nth,ih]
theorem Br {all:Array Oper} {i:Nat} {o:Oper} (ho:all[i]?=some o) {acc:List (List Nat)} (hacc:∀k x,x∈nth acc k→TP all x k):∀(es:List Edge),(∀e,e∈es→e∈o.after.toList)→∀x,x∈Bq acc es→TP all x i:=by
 intro es
 induction es with
 | nil=>intro _ x hx;cases hx
 | cons e r ih =>
  intro hsub x hx
  unfold Bq at hx
  cases hb:Region.binds .any e with
  | false=>rw [hb] at hx;exact ih (fun e he=>hsub e (List.mem_cons_of_mem _ he)) x hx
  | true =>
   rw [hb] at hx
   have hedge:gJ o e.on=true:=by
    unfold gJ
    rw [List.any_eq_true]
    exact⟨e,hsub e (by simp),by simp [hb]⟩
   rcases wC _ _ _ hx with h1|h1
   ·rcases List.mem_cons.1 h1 with rfl|h1
    ·exact .one ho hedge
    ·exact .more (hacc _ _ h1) ho hedge
   ·exact ih (fun e he=>hsub e (List.mem_cons_of_mem _ he)) x h1
theorem Ed {all:Array Oper}:∀(os:List Oper) (acc:List (List Nat)),(∀k o,os[k]?=some o→all[acc.length+k]?=some o)→(∀k x,x∈nth acc k→TP all x k)→∀k x,x∈nth (clo os acc) k→TP all x k:=by
 intro os
 induction os with
 | nil=>intro acc _ h;exact h
 | cons o os ih =>
  intro acc hall hacc
  refine ih _ (fun k o' ho'=>?_) (fun k x hx=>?_)
  ·have:=hall (k+1) o' (by simpa using ho')
   simpa [Nat.add_assoc,Nat.add_comm 1 k] using this
  ·rw [xS] at hx
   by_cases hk:k<acc.length
   ·rw [List.getElem?_append_left hk,←xS] at hx
    exact hacc k x hx
   ·by_cases hk2:k=acc.length
    ·subst hk2
     simp at hx
     exact Br (by simpa using hall 0 o rfl) hacc _ (fun e he=>he) x hx
    ·rw [List.getElem?_eq_none (by simp;omega)] at hx
     cases hx
def Gn (all:Array Oper) (o o':Oper) (f f':FP):Bool:=o.apart all o' && !zn f.2 f'.1 && !zn f.2 f'.2 && !zn f'.2 f.1
def xT (all:Array Oper) (cl:List (List Nat)) (i:Nat) (o:Oper) (f:FP):Nat→List Oper→List FP→Bool
 | j,o'::os,f'::fs=>(Gn all o o' f f'||iF (nth cl j) i)&&xT all cl i o f (j+1) os fs
 | _,_,_=>true
def xU (o:Oper) (i:Nat):Bool:=o.after.toList.all fun e => !Region.binds .any e||Nat.blt e.on i
def sA (all:Array Oper) (cl:List (List Nat)) (i:Nat):List Oper→List FP→Bool
 | o::os,f::fs=>xT all cl i o f (i+1) os fs&&xU o i&&sA all cl (i+1) os fs
 | _,_=>true
def Bs (all:Array Oper) (fs:List FP):Bool:=sA all (clo all.toList []) 0 all.toList fs
theorem sB {l m:List Nat} (h:zn l m=false):∀i,i∈l→i∉m:=by
 induction l with
 | nil=>intro i hi;cases hi
 | cons k r ih =>
  intro i hi
  unfold zn at h
  cases hb:iF m k with
  | true=>rw [hb] at h;cases h
  | false =>
   rw [hb] at h
   rcases List.mem_cons.1 hi with rfl|hi
   ·intro hm;rw [(fx m i).2 hm] at hb;cases hb
   ·exact ih h i hi
theorem Ee {all:Array Oper} {o o':Oper} {s s':Stp} (h:Gn all o o' s.fp s'.fp=true):oT all o o' s s':=by
 unfold Gn at h
 simp only [Bool.and_eq_true,Bool.not_eq_true'] at h
 obtain⟨⟨⟨h1,h2⟩,h3⟩,h4⟩:=h
 exact⟨h1,fun i hi=>⟨sB h2 i hi,sB h3 i hi⟩,fun i hi=>sB h4 i hi⟩
def mkL:Nat→List Oper→List Stp→List (Nat×Oper×Stp)
 | i,o::os,s::ss=>(i,o,s)::mkL (i+1) os ss
 | _,_,_=>[]
theorem Bt:∀(os:List Oper) (ss:List Stp) (i:Nat) (x),x∈mkL i os ss→i≤x.1∧os[x.1-i]?=some x.2.1:=by
 intro os
 induction os with
 | nil=>intro ss i x hx;simp [mkL] at hx
 | cons o os ih =>
  intro ss i x hx
  cases ss with
  | nil=>simp [mkL] at hx
  | cons s ss =>
   rcases List.mem_cons.1 hx with rfl|hx
   ·simp
   ·obtain⟨h1,h2⟩:=ih ss (i+1) x hx
    refine⟨by omega,?_⟩
    rw [show x.1-i=x.1-(i+1)+1 by omega]
    simpa using h2
theorem Ef:∀(os:List Oper) (ss:List Stp) (i:Nat),os.length=ss.length→(∀j,j<os.length→∃x,x∈mkL i os ss∧x.1=i+j)∧(mkL i os ss).length=os.length:=by
 intro os
 induction os with
 | nil=>intro ss i _;exact⟨fun j hj=>by simp at hj,by simp [mkL]⟩
 | cons o os ih =>
  intro ss i hl
  cases ss with
  | nil=>simp at hl
  | cons s ss =>
   obtain⟨h1,h2⟩:=ih ss (i+1) (by simpa using hl)
   refine⟨fun j hj=>?_,by simp [mkL,h2]⟩
   cases j with
   | zero=>exact⟨(i,o,s),by simp [mkL],rfl⟩
   | succ j =>
    obtain⟨x,hx,hxe⟩:=h1 j (by simpa using hj)
    exact⟨x,by simp [mkL,hx],by omega⟩
theorem Gp (all:Array Oper) {cl:List (List Nat)} (hcl:∀k x,x∈nth cl k→TP all x k):∀(os:List Oper) (ss:List Stp) (i:Nat),sA all cl i os (ss.map Stp.fp)=true →
 (mkL i os ss).Pairwise (fun x y=>x.1<y.1)∧(mkL i os ss).Pairwise (fun x y=>oT all x.2.1 y.2.1 x.2.2 y.2.2∨TP all x.1 y.1)∧(∀x,x∈mkL i os ss→∀j,gJ x.2.1 j=true→j<x.1):=by
 intro os
 induction os with
 | nil=>intro ss i _;exact⟨by simp [mkL],by simp [mkL],fun x hx=>by simp [mkL] at hx⟩
 | cons o os ih =>
  intro ss i h
  cases ss with
  | nil=>exact⟨by simp [mkL],by simp [mkL],fun x hx=>by simp [mkL] at hx⟩
  | cons s ss =>
   simp only [List.map_cons,sA,Bool.and_eq_true] at h
   obtain⟨⟨hp,he⟩,hr⟩:=h
   obtain⟨h1,h2,h3⟩:=ih ss (i+1) hr
   have hpair:∀(os:List Oper) (ss:List Stp) (k:Nat),xT all cl i o s.fp k os (ss.map Stp.fp)=true→∀y,y∈mkL k os ss→oT all o y.2.1 s y.2.2∨TP all i y.1:=by
    intro os
    induction os with
    | nil=>intro ss k _ y hy;simp [mkL] at hy
    | cons o' os ih =>
     intro ss k hh y hy
     cases ss with
     | nil=>simp [mkL] at hy
     | cons s' ss =>
      simp only [List.map_cons,xT,Bool.and_eq_true,Bool.or_eq_true] at hh
      rcases List.mem_cons.1 hy with rfl|hy
      ·rcases hh.1 with h1|h1
       ·exact .inl (Ee h1)
       ·exact .inr (hcl k i ((fx _ _).1 h1))
      ·exact ih ss (k+1) hh.2 y hy
   refine⟨?_,?_,fun x hx j hj=>?_⟩
   ·simp only [mkL,List.pairwise_cons]
    exact⟨fun y hy=>(by have:=(Bt os ss (i+1) y hy).1;omega),h1⟩
   ·simp only [mkL,List.pairwise_cons]
    exact⟨fun y hy=>hpair os ss (i+1) hp y hy,h2⟩
   ·rcases List.mem_cons.1 hx with rfl|hx
    ·unfold gJ at hj
     rw [List.any_eq_true] at hj
     obtain⟨e,hem,hee⟩:=hj
     simp only [Bool.and_eq_true] at hee
     unfold xU at he
     rw [List.all_eq_true] at he
     have:=he e hem
     simp only [Bool.or_eq_true,Bool.not_eq_true',hee.1] at this
     have heo:=Nat.eq_of_beq_eq_true hee.2
     rcases this with h5|h5
     ·cases h5
     ·simp only;rw [← heo];simpa [Nat.blt_eq] using h5
    ·exact h3 x hx j hj
def SD (c:Ctx) (all:Array Oper) (l:List Oper) (acc:List FP) (k:List It) (fs:FS):Prop :=
 ∃(ss:List Stp) (fe:FS),ss.length=l.length∧(∀i,RunF c.P all (mkL i l ss) fs fe)∧Bs all (acc++ss.map Stp.fp)=true∧∀ ρ F a w,ConcF c ρ F fe a w→Wk c k .normal a w
theorem Rd.drew {ρ:am} {F:aA} {w:World} {x:AV} {u:Value} (h:Rd ρ F w x u):Rd ρ F w.drew x u:=Rd.mono (w:=w) (w':=w.drew) (F:=F) (F':=F) (ρ:=ρ) (ρ':=ρ) (fun _ _ h=>h) (fun _ h=>h) (fun _ _=>rfl) ⟨fun _ _ h=>h,fun _ h=>h⟩ h
theorem zo {c:Ctx} {all:Array Oper} {id:Nat} {k:List It} {st:AS} (hm:c.P.follows .mixedOrders=true) (h:SD c all all.toList [] k st.fs):SAW c (.code (.region id all true)::k) st:=by
 intro ρ F a w hc
 obtain⟨ss,fe,hl,hrun,hok,hfin⟩:=h
 refine wp_region_any hm ?_
 simp only [List.nil_append] at hok
 have hcl:∀k x,x∈nth (clo all.toList []) k→TP all x k:=Ed all.toList [] (fun k o ho=>by simpa using ho) (fun k x hx=>by simp [nth] at hx)
 obtain⟨h1,h2,h3⟩:=Gp all hcl all.toList ss 0 hok
 obtain⟨h4,h5⟩:=Ef all.toList ss 0 hl.symm
 have hcF:ConcF c ρ F st.fs a { w with drawn:=w.drawn+1 }:=by
  have:=hc.toF
  exact⟨this.defers,this.size,fun s=>(this.slots s).drew,⟨fun i k hk=>by
   rcases this.heap.ok i k hk with h1|⟨b,hb,ho⟩
   ·exact .inl h1
   ·exact .inr ⟨b,hb,ho.keep ho.own rfl (fun _ h=>h) (fun _ _=>rfl) (fun c u _ hr=>hr.drew)⟩,this.heap.inj⟩,this.fresh,this.fok,this.chg.trans (Chg.drew c.O F w) (fun b hb => .inl hb),this.dom,this.own,this.keep,this.glob⟩
 refine Bp hfin all.size (mkL 0 all.toList ss) st.fs ρ F a _ _ hcF (hrun 0) h1 (fun x hx=>?_) h2 h3 (fun i o _ hi=>by by_cases h:i<all.size<;>simp [Array.getD,h] at hi) (by simp) (fun i hi=>?_) (by rw [h5];simp)
 ·have:=(Bt _ _ _ x hx).2
  simpa using this
 ·constructor
  ·intro _
   obtain⟨x,hx,hxe⟩:=h4 i (by simpa using hi)
   exact⟨x,hx,by omega⟩
  ·intro _
   simp [Array.getD,hi]
structure LeA (fs fs':FS):Prop where
 n:fs'.n=fs.n
 sl:fs'.sl=fs.sl
 hp:fs'.hp=fs.hp
 al:∀i,fs'.al i→fs.al i
theorem LeA.app {fs fs':FS} (h:LeA fs fs') (o:Oper) (s:Stp):LeA (fL o fs s) (fL o fs' s):=by
 obtain⟨n,sl,hp,al⟩:=fs
 obtain⟨n',sl',hp',al'⟩:=fs'
 obtain⟨h1,h2,h3,h4⟩:=h
 simp only at h1 h2 h3 h4
 subst h1 h2 h3
 cases s with
 | run v T u=>exact⟨rfl,rfl,rfl,fun i hi=>by rcases hi with hi|hi;exact .inl (h4 i hi);exact .inr hi⟩
 | skip=>exact⟨rfl,rfl,rfl,h4⟩
theorem LeA.stp {P:Program} {all:Array Oper} {o:Oper} {fs fs':FS} {s:Stp} (h:LeA fs fs') (hs:oS P all o fs s):oS P all o fs' s:=by
 obtain⟨n,sl,hp,al⟩:=fs
 obtain⟨n',sl',hp',al'⟩:=fs'
 obtain⟨h1,h2,h3,h4⟩:=h
 simp only at h1 h2 h3 h4
 subst h1 h2 h3
 cases s with
 | run v T u =>
  obtain⟨a,b,c,d⟩:=hs
  exact⟨a,b,fun i hi=>by rcases c i hi with h5|h5;exact .inl h5;exact .inr (fun h6=>h5 (h4 i h6)),d⟩
 | skip=>exact hs
theorem RunF.le {P:Program} {all:Array Oper}:∀(L:List (Nat×Oper×Stp)) {fs fs' fe:FS},RunF P all L fs fe→LeA fs fs'→∃fe',RunF P all L fs' fe'∧LeA fe fe'
 | [],fs,fs',fe,h,hl=>⟨fs',rfl,by have:fs=fe:=h;rw [← this];exact hl⟩
 | (i,o,s)::L,fs,fs',fe,h,hl=>by
  obtain⟨fe',h1,h2⟩:=RunF.le L h.2 (hl.app o s)
  exact⟨fe',⟨hl.stp h.1,h1⟩,h2⟩
theorem LeA.conc {c:Ctx} {ρ:am} {F:aA} {fs fs':FS} {a:Act} {w:World} (h:LeA fs fs') (hc:ConcF c ρ F fs' a w):ConcF c ρ F fs a w:=by
 obtain⟨n,sl,hp,al⟩:=fs
 obtain⟨n',sl',hp',al'⟩:=fs'
 obtain⟨h1,h2,h3,h4⟩:=h
 simp only at h1 h2 h3 h4
 subst h1 h2 h3
 exact⟨hc.defers,hc.size,hc.slots,hc.heap,fun i hi=>hc.fresh i (fun h5=>hi (h4 i h5)),hc.fok,hc.chg,fun i hi=>h4 i (hc.dom i hi),hc.own,hc.keep,hc.glob⟩
theorem RunF.shift {P:Program} {all:Array Oper}:∀(l:List Oper) (ss:List Stp) (i j:Nat) (fs fe:FS),RunF P all (mkL i l ss) fs fe→RunF P all (mkL j l ss) fs fe
 | [],ss,i,j,fs,fe,h=>h
 | o::l,[],i,j,fs,fe,h=>h
 | o::l,s::ss,i,j,fs,fe,h=>⟨h.1,RunF.shift l ss (i+1) (j+1) _ fe h.2⟩
theorem Bu (st:AS) (d:Option Nat) (v:AV):(put st d v).fs=putF st.fs d v:=by
 cases d with
 | none=>rfl
 | some d =>
  unfold put
  simp only
  cases hb:Nat.blt d st.n with
  | true =>
   have hlt:d<st.n:=by simpa [Nat.blt_eq] using hb
   refine FS.ext' rfl (fun s=>?_) (fun _=>rfl) (fun _=>Iff.rfl)
   simp only [AS.fs,fJ,putF]
   by_cases h:d=s
   ·subst h;simp [hlt]
   ·simp [h]
  | false =>
   have hge:¬d<st.n:=fun h=>by
    have:Nat.blt d st.n=true:=by simpa [Nat.blt_eq] using h
    rw [hb] at this;cases this
   refine FS.ext' rfl (fun s=>?_) (fun _=>rfl) (fun _=>Iff.rfl)
   exact (if_neg (fun h=>hge h.2)).symm
theorem Gq {st:AS} {d:Option Nat} {v:AV} {u:List (Nat×Option Blk)} {nx:Nat} (hle:st.nx≤nx) (hk:∀i,i∈keys u→i<nx):LeA (eff st d v u nx).fs (Bk st.fs d v u):=by
 unfold eff
 rw [Bu]
 refine⟨rfl,?_,?_,fun i hi=>?_⟩
 ·rfl
 ·show updH u (hget st.hp)=hget (u++st.hp)
  rw [co]
 ·rcases hi with hi|hi
  ·exact Nat.lt_of_lt_of_le hi hle
  ·exact hk i hi
theorem OpOk.toF {P:Program} {o:Oper} {st:AS} {v:AV} {T:List Nat} {u:List (Nat×Option Blk)} {nx:Nat} (h:OpOk P o st v T u nx):OpF P o st.fs v T u:=by
 intro ρ F a w hpre hin K Q hK
 exact h.tri ρ F a w hpre (fun x hx=>by rw [← Gm];exact hin x hx) K Q hK
theorem SD.step {c:Ctx} {all:Array Oper} {o:Oper} {os:List Oper} {acc:List FP} {k:List It} {st:AS} {v:AV} {T:List Nat} {u:List (Nat×Option Blk)} {nx:Nat} (hw:wantF all o st.fs true) (ho:OpOk c.P o st v T u nx) (hd:∀i,i∈T→i<nx)
 (h:SD c all os (acc++[(T,keys u)]) k (eff st o.dst v u nx).fs):SD c all (o::os) acc k st.fs:=by
 obtain⟨ss,fe,hl,hrun,hok,hfin⟩:=h
 have hle:LeA (eff st o.dst v u nx).fs (Bk st.fs o.dst v u):=Gq ho.le (fun i hi=>by
  rcases ho.keysOk i hi with h1|h1
  ·exact hd i h1
  ·exact h1.2)
 obtain⟨fe',hr',hle'⟩:=RunF.le (mkL 0 os ss) (hrun 0) hle
 refine⟨.run v T u::ss,fe',by simp [hl],fun i=>⟨⟨hw,ho.toF,fun i hi=>?_,ho.live⟩,RunF.shift os ss 0 (i+1) _ fe' hr'⟩,by simpa [Stp.fp,Stp.T,Stp.K,List.append_assoc] using hok,fun ρ F a w hc=>hfin ρ F a w (hle'.conc hc)⟩
 rcases ho.keysOk i hi with h1|h1
 ·exact .inl h1
 ·exact .inr (fun h2=>by have h2':i<st.nx:=h2;omega)
theorem SD.skip {c:Ctx} {all:Array Oper} {o:Oper} {os:List Oper} {acc:List FP} {k:List It} {st:AS} (hw:wantF all o st.fs false) (h:SD c all os (acc++[([],[])]) k (put st o.dst .any).fs):SD c all (o::os) acc k st.fs:=by
 obtain⟨ss,fe,hl,hrun,hok,hfin⟩:=h
 rw [Bu] at hrun
 exact⟨.skip::ss,fe,by simp [hl],fun i=>⟨hw,hrun (i+1)⟩,by simpa [Stp.fp,Stp.T,Stp.K,List.append_assoc] using hok,hfin⟩
def oW (c:Ctx) (f:FuncId) (vs:List AV) (o:Oper) (all:Array Oper) (os:List Oper) (acc:List FP) (k:List It) (st:AS):Prop :=
 oK c.P o st f vs→∃v T u nx,OpOk c.P o st v T u nx∧(∀i,i∈T→i<nx)∧SD c all os (acc++[(T,keys u)]) k (eff st o.dst v u nx).fs
def wD (c:Ctx) (rec:List FP→AS→Prop) (o:Oper) (all:Array Oper) (os:List Oper) (acc:List FP) (k:List It) (st:AS):R→Prop
 | .ok v T u nx=>ct nx T=true∧rec (acc++[(T,keys u)]) (eff st o.dst v u nx)
 | .okS s v T u nx=>s∧ct nx T=true∧rec (acc++[(T,keys u)]) (eff st o.dst v u nx)
 | .call f vs=>oW c f vs o all os acc k st
 | .bad=>False
def wE (c:Ctx) (rec:List FP→AS→Prop) (o:Oper) (all:Array Oper) (os:List Oper) (acc:List FP) (k:List It) (st:AS) (d:Nat) (want:Bool):AV→Prop
 | .p (.v (.bool b))=>if b=want then wD c rec o all os acc k (setB st d want) (aop c.P o.op (setB st d want)) else rec (acc++[([],[])]) (put (setB st d (!want)) o.dst .any)
 | _=>False
def sC (c:Ctx) (rec:List FP→AS→Prop) (o:Oper) (all:Array Oper) (os:List Oper) (acc:List FP) (k:List It) (st:AS) (want:Bool):Option Nat→Prop
 | some d=>wE c rec o all os acc k st d want (lk st.sl d)
 | none=>False
def gD (c:Ctx) (rec:List FP→AS→Prop) (o:Oper) (all:Array Oper) (os:List Oper) (acc:List FP) (k:List It) (st:AS):Option (Nat×Bool)→Prop
 | none=>wD c rec o all os acc k st (aop c.P o.op st)
 | some (j,want)=>sC c rec o all os acc k st want (qH all.toList j)
theorem nU {st:AS} {d:Nat} {b:Bool} (h:lk st.sl d = .b b):(setB st d b).fs=st.fs:=by
 refine FS.ext' rfl (fun s=>?_) (fun _=>rfl) (fun _=>Iff.rfl)
 simp only [AS.fs,setB,fJ]
 split
 ·rename_i e;subst e;exact h.symm
 ·rfl
theorem oX {c:Ctx} {rec:List FP→AS→Prop} {o:Oper} {all:Array Oper} {os:List Oper} {acc:List FP} {k:List It} {st:AS} (hrec:∀acc st,rec acc st→SD c all os acc k st.fs) (hw:wantF all o st.fs true)
 (h:wD c rec o all os acc k st (aop c.P o.op st)):SD c all (o::os) acc k st.fs:=by
 obtain⟨h1,h2⟩:=A9 (P:=c.P) o st
 cases hr:aop c.P o.op st with
 | ok v T u nx =>
  rw [hr] at h
  exact SD.step hw (h1 v T u nx hr) (fun i hi=>dW h.1 hi) (hrec _ _ h.2)
 | okS s v T u nx =>
  rw [hr] at h
  exact SD.step hw (h2 s v T u nx hr h.1) (fun i hi=>dW h.2.1 hi) (hrec _ _ h.2.2)
 | call f vs =>
  rw [hr] at h
  obtain⟨v,T,u,nx,ho,hd,hs⟩:=h (uq hr)
  exact SD.step hw ho hd hs
 | bad=>rw [hr] at h;exact h.elim
end Go.Abs
namespace Go.Abs
set_option linter.unusedSimpArgs false
set_option linter.unusedVariables false
open Go Go.RowKit
variable {P : Program}
mutual
def renA (τ:Nat→Nat):AV→AV
 | .p x => .p x
 | .ptr i off => .ptr (τ i) off
 | .sl i off n s => .sl (τ i) off n s
 | .cp cs => .cp cs
 | .agg as => .agg (eG τ as)
 | .tup as => .tup (eG τ as)
 | .iface t a => .iface t (renA τ a)
 | .fn f as bs => .fn f (eG τ as) (eG τ bs)
 | .mp i => .mp (τ i)
 | .any => .any
def eG (τ:Nat→Nat):List AV→List AV
 | []=>[]
 | a::as=>renA τ a::eG τ as
end
theorem eM (τ:Nat→Nat):∀cs:List PV,eG τ (cs.map .p)=cs.map .p
 | []=>rfl
 | c::cs=>by simp only [List.map_cons,eG,renA,eM τ cs]
theorem g7 {τ:Nat→Nat}:∀{as:List AV} {j:Nat} {b:AV},(eG τ as)[j]?=some b→∃a,as[j]?=some a∧b=renA τ a
 | [],j,b,h=>by simp [eG] at h
 | a::as,0,b,h=>by simp [eG] at h;exact⟨a,rfl,h.symm⟩
 | a::as,j+1,b,h=>by simp [eG] at h;simpa using g7 h
theorem g8 {τ:Nat→Nat}:∀(as:List AV),(eG τ as).length=as.length
 | []=>rfl
 | a::as=>by simp [eG,g8 as]
def renU (τ:Nat→Nat):List (Nat×Option Blk)→List (Nat×Option Blk)
 | []=>[]
 | (i,b)::r=>(τ i,match b with|some b=>some ⟨b.t,eG τ b.cs⟩|none=>none)::renU τ r
theorem Bv {τ:Nat→Nat} {D:List Nat} {ρ ρ':am} {F:aA} {w:World} (he:∀i,i∈D→ρ' (τ i)=ρ i) {x:AV} {u:Value} (h:Rd ρ F w x u):ax D x→Rd ρ' F w (renA τ x) u:=by
 induction h with
 | p x u h=>intro _;exact .p _ _ h
 | ptr id off b h=>intro hi;exact .ptr _ _ _ (by rw [he id hi];exact h)
 | sl id off len s b cap h hcap hc=>intro hi;exact .sl _ _ _ _ _ _ (by rw [he id hi];exact h) hcap hc
 | slz id off s A=>intro _;exact .slz _ _ _ _
 | cp cs b off f hF hc h1 hr=>intro _;exact .cp _ _ _ f hF hc h1 hr
 | agg cs us hl _ ih =>
  intro hi
  refine .agg _ _ (by rw [hl,g8]) (fun j c hj=>?_)
  obtain⟨a,ha,rfl⟩:=g7 hj
  exact ih j a ha (cQ hi ha)
 | tup cs us hl _ ih =>
  intro hi
  refine .tup _ _ (by rw [hl,g8]) (fun j c hj=>?_)
  obtain⟨a,ha,rfl⟩:=g7 hj
  exact ih j a ha (cQ hi ha)
 | iface t x u _ ih=>intro hi;exact .iface _ _ _ (ih hi)
 | fn f as bs us vs hl _ hl' _ ih ih' =>
  intro hi
  refine .fn _ _ _ _ _ (by rw [hl,g8]) (fun j c hj=>?_) (by rw [hl',g8]) (fun j c hj=>?_)
  ·obtain⟨a,ha,rfl⟩:=g7 hj
   exact ih j a ha (cQ hi.1 ha)
  ·obtain⟨a,ha,rfl⟩:=g7 hj
   exact ih' j a ha (cQ hi.2 ha)
 | mp id b h hm=>intro hi;exact .mp _ _ (by rw [he id hi];exact h) hm
 | any u=>intro _;exact .any _
theorem g9 (τ:Nat→Nat) (u:List (Nat×Option Blk)):keys (renU τ u)=(keys u).map τ:=by
 induction u with
 | nil=>rfl
 | cons x r ih=>obtain⟨i,b⟩:=x;simp only [renU,keys,List.map_cons] at ih ⊢;rw [ih]
theorem uw {τ:Nat→Nat}:∀{u:List (Nat×Option Blk)} {i:Nat},bQ ((keys u).map τ)=true→i∈keys u→hget (renU τ u) (τ i)=(hget u i).map fun b=>⟨b.t,eG τ b.cs⟩:=by
 intro u
 induction u with
 | nil=>intro i _ hi;cases hi
 | cons x r ih =>
  obtain⟨k,b⟩:=x
  intro i hn hi
  have hinj:=@jW τ (keys ((k,b)::r)) hn
  by_cases hk:k=i
  ·subst hk
   simp only [renU,hget]
   have:Nat.beq (τ k) (τ k)=true:=by simp
   have h2:Nat.beq k k=true:=by simp
   simp only [this,h2]
   cases b<;>rfl
  ·have hne:¬ τ k=τ i:=fun e=>hk (hinj (by simp [keys]) hi e)
   simp only [renU,hget,dm hne,dm hk]
   have hi':i∈keys r:=by
    simp only [keys,List.map_cons,List.mem_cons] at hi
    rcases hi with hi|hi
    ·exact absurd hi.symm hk
    ·exact hi
   refine ih ?_ hi'
   simp only [keys,List.map_cons,bQ] at hn
   cases hm:iF ((r.map (·.1)).map τ) (τ k) with
   | true=>rw [hm] at hn;cases hn
   | false=>rw [hm] at hn;exact hn
structure Con (P:Program) (f:FuncId) (vs:List AV) (hp:List (Nat×Option Blk)) (v:AV) (u:List (Nat×Option Blk)):Prop where
 call:FCall P f vs (hget hp) v (liveK hp) u
 ids:an (liveK hp) vs
 idh:bS (liveK hp) hp
 sub:∀i,i∈liveK hp→i∈keys u
structure jo (st:AS) (vs:List AV) (vs0:List AV) (hp0:List (Nat×Option Blk)) (v0:AV) (u0:List (Nat×Option Blk)) (S:List Nat) (τ:Nat→Nat) (nx:Nat):Prop where
 args:ai (hget st.hp) S τ vs0 vs
 blocks:ge (hget st.hp) S τ hp0
 nd:bQ ((keys u0).map τ)=true
 live:lz st.hp S
 le:st.nx≤nx
 new:∀i,i∈keys u0→i∈liveK hp0∨(st.nx≤τ i∧τ i<nx)
 idv:ax (keys u0) v0
 idu:bS (keys u0) u0
 lt:ct st.nx S=true
theorem ux (a b:List (Nat×Option Blk)):keys (a++b)=keys a++keys b:=by simp [keys]
theorem lA (S:List Nat):keys (dG S)=S:=by
 induction S with
 | nil=>rfl
 | cons k r ih=>simp only [dG,keys,List.map_cons] at ih ⊢;rw [ih]
theorem uy {o:Oper} {st:AS} {f:FuncId} {vs vs0:List AV} {hp0:List (Nat×Option Blk)} {v0:AV} {u0:List (Nat×Option Blk)} {S:List Nat} {τ:Nat→Nat} {nx:Nat} (hc:oK P o st f vs) (hf:Con P f vs0 hp0 v0 u0)
 (hk:jo st vs vs0 hp0 v0 u0 S τ nx):OpOk P o st (renA τ v0) ((liveK hp0).map τ++S) (renU τ u0++dG S) nx:=by
 have hblk:∀i,i∈liveK hp0→τ i∉S∧∃b0 b,(i,some b0)∈hp0∧hget st.hp (τ i)=some b∧b0.t=b.t∧ai (hget st.hp) S τ b0.cs b.cs:=by
  intro i hi
  have:∃b0,(i,some b0)∈hp0:=by
   have key:∀(hp:List (Nat×Option Blk)),i∈liveK hp→∃b0,(i,some b0)∈hp:=by
    intro hp
    induction hp with
    | nil=>intro h;cases h
    | cons x r ih =>
     obtain⟨k,v⟩:=x
     intro h
     unfold liveK at h
     cases v with
     | some b =>
      rcases List.mem_cons.1 h with rfl|h
      ·exact⟨b,by simp⟩
      ·obtain⟨b0,hb0⟩:=ih h;exact⟨b0,List.mem_cons_of_mem _ hb0⟩
     | none=>obtain⟨b0,hb0⟩:=ih h;exact⟨b0,List.mem_cons_of_mem _ hb0⟩
   exact key hp0 hi
  obtain⟨b0,hb0⟩:=this
  obtain⟨h1,h2⟩:=g6 hk.blocks hb0
  unfold kP at h2
  split at h2
  ·rename_i b hb;exact⟨h1,b0,b,hb0,hb,h2.1,h2.2⟩
  ·exact h2.elim
 have hlive:∀j,j∈(liveK hp0).map τ++S→hget st.hp j≠none:=by
  intro j hj
  rcases List.mem_append.1 hj with h1|h1
  ·obtain⟨i,hi,rfl⟩:=List.mem_map.1 h1
   obtain⟨_,b0,b,_,hb,_⟩:=hblk i hi
   rw [hb];simp
  ·exact fa hk.live h1
 have hkeys:∀j,j∈keys (renU τ u0++dG S)↔(∃i,i∈keys u0∧τ i=j)∨j∈S:=by
  intro j
  rw [ux,g9,lA,List.mem_append,List.mem_map]
 have hinj:∀i i',i∈keys u0→i'∈keys u0→τ i=τ i'→i=i':=fun i i' h1 h2 he=>jW hk.nd h1 h2 he
 have hkeysOk:∀j,j∈keys (renU τ u0++dG S)→j∈(liveK hp0).map τ++S∨(st.nx≤j∧j<nx):=by
  intro j hj
  rcases (hkeys j).1 hj with ⟨i,hi,rfl⟩|hj
  ·rcases hk.new i hi with h1|h1
   ·exact .inl (List.mem_append_left _ (List.mem_map.2 ⟨i,h1,rfl⟩))
   ·exact .inr h1
  ·exact .inl (List.mem_append_right _ hj)
 have hmT:∀i,i∈liveK hp0→τ i∈(liveK hp0).map τ++S:=fun i hi=>List.mem_append_left _ (List.mem_map.2 ⟨i,hi,rfl⟩)
 refine⟨?_,hk.le,hkeysOk,hlive⟩
 intro ρ F a w hpre hin K Q hK
 obtain⟨us,hz,hr,he⟩:=hc ρ F a w hin
 unfold Oper.wp
 rw [he]
 have hHS:HpOk ρ F w (Abs.restr S (hget st.hp)):=by
  refine⟨fun i k hik=>?_,fun i j b hi hj h1 h2=>?_⟩
  ·obtain⟨h1,h2⟩:=aJ hik
   exact hpre.hp.ok i k (by simp [Abs.restr,h1,h2])
  ·have key:∀i,Abs.restr S (hget st.hp) i≠none→Abs.restr ((liveK hp0).map τ++S) (hget st.hp) i≠none:=by
    intro i hi
    obtain⟨k,hk'⟩:=Option.ne_none_iff_exists'.1 hi
    obtain⟨h1,h2⟩:=aJ hk'
    simp [Abs.restr,h1,h2]
   exact hpre.hp.inj i j b (key i hi) (key j hj) h1 h2
 let ρ0:am:=fun i=>if i∈liveK hp0 then ρ (τ i) else none
 have hρ0:∀i,i∈liveK hp0→ρ0 i=ρ (τ i):=fun i hi=>by simp [ρ0,hi]
 have hfr0:∀i,i∈keys u0→i∉liveK hp0→ρ (τ i)=none:=by
  intro i hi hn
  rcases hk.new i hi with h1|h1
  ·exact absurd h1 hn
  ·refine hpre.fresh (τ i) ((hkeys _).2 (.inl ⟨i,hi,rfl⟩)) (fun hm=>?_)
   rcases List.mem_append.1 hm with h2|h2
   ·obtain⟨i',hi',he'⟩:=List.mem_map.1 h2
    have:=hinj i' i (hf.sub i' hi') hi he'
    exact hn (this ▸ hi')
   ·have:=dW hk.lt h2;omega
 have hOS:∀b,OSet ρ S b→b<w.heap.size∧OSet ρ (keys (renU τ u0++dG S)) b:=by
  rintro b ⟨i,hi,hb⟩
  refine⟨?_,i,(hkeys i).2 (.inr hi),hb⟩
  obtain⟨k,hk'⟩:=Option.ne_none_iff_exists'.1 (fa hk.live hi)
  rcases hHS.ok i k (by simp [Abs.restr,hi,hk']) with ⟨_,h0⟩|⟨b2,hb2,ho⟩
  ·rw [h0] at hb;cases hb
  ·rw [hb] at hb2;cases hb2
   exact ho.lt
 have hfok0:FOk (gd F ρ S) w:=by
  rintro b (hb|hb)
  ·exact hpre.fok b hb
  ·exact (hOS b hb).1
 have hpre0:Pre ρ0 (gd F ρ S) w (liveK hp0) u0 (hget hp0):=by
  refine⟨hfok0,⟨fun i k hik=>?_,fun i j b hi hj h1 h2=>?_⟩,fun i hi hn=>by simp [ρ0,hn],hpre.glob.mono (fun _ h => .inl h) (fun _ _=>rfl)⟩
  ·obtain⟨hi,hik⟩:=aJ hik
   have hm:=eZ hik
   obtain⟨h1,h2⟩:=g6 hk.blocks hm
   unfold kP at h2
   split at h2
   ·rename_i b hb
    obtain⟨ht,hvv⟩:=h2
    rcases hpre.hp.ok (τ i) b (by simp only [Abs.restr,if_pos (hmT i hi),hb]) with ⟨h3,h0⟩|⟨bb,hbb,ho⟩
    ·rw [h3] at hvv
     refine .inl ⟨?_,by rw [hρ0 i hi];exact h0⟩
     cases hcs:k.cs with
     | nil=>rfl
     | cons x r=>rw [hcs] at hvv;simp [ai] at hvv
    ·refine .inr ⟨bb,by rw [hρ0 i hi];exact hbb,ho.view (fun hF=>?_) ht (c6 hvv) (fun _ h => .inl h) (fun f hf' j c hj=>?_)⟩
     ·rcases hF with hF|⟨j,hj,hjb⟩
      ·exact ho.own hF
      ·have:=hpre.hp.inj j (τ i) bb (by simp [Abs.restr,hj];exact fa hk.live hj) (by simp only [Abs.restr,if_pos (hmT i hi),hb];exact fun h=>by cases h) hjb hbb
       exact h1 (this ▸ hj)
     ·have hrd:=dV (ρ':=fun i=>ρ (τ i)) hHS (fun i b hb=>hb) k.cs b.cs f hvv hf' j c hj
      exact sz hρ0 hrd (cQ (oQ hf.idh hm) hj)
   ·exact h2.elim
  ·obtain⟨ki,hki⟩:=Option.ne_none_iff_exists'.1 hi
   obtain⟨kj,hkj⟩:=Option.ne_none_iff_exists'.1 hj
   have hi':=(aJ hki).1
   have hj':=(aJ hkj).1
   rw [hρ0 i hi'] at h1
   rw [hρ0 j hj'] at h2
   have:=hpre.hp.inj (τ i) (τ j) b (by
    obtain⟨_,_,b,_,hb,_⟩:=hblk i hi'
    simp only [Abs.restr,if_pos (hmT i hi'),hb];exact fun h=>by cases h) (by
    obtain⟨_,_,b,_,hb,_⟩:=hblk j hj'
    simp only [Abs.restr,if_pos (hmT j hj'),hb];exact fun h=>by cases h) h1 h2
   exact hinj i j (hf.sub i hi') (hf.sub j hj') this
 have hargs:∀j c,vs0[j]?=some c→Rd ρ0 (gd F ρ S) w c (us.getD j undef):=by
  intro j c hj
  have hrd:=dV (ρ':=fun i=>ρ (τ i)) hHS (fun i b hb=>hb) vs0 vs (fun j=>us.getD j undef) hk.args hr j c hj
  exact sz hρ0 hrd (cQ hf.ids hj)
 refine (hf.call.tri ρ0 (gd F ρ S) us w hpre0 (by rw [hz,c6 hk.args]) hargs).upon ?_
 rintro x w' ⟨ρ1,F',hp⟩
 let back:Nat→Option Nat:=fun j=>(keys u0).find? (fun i=>Nat.beq (τ i) j)
 have hback:∀i,i∈keys u0→back (τ i)=some i:=by
  intro i hi
  cases hb:back (τ i) with
  | none =>
   have:=List.find?_eq_none.1 hb i hi
   simp at this
  | some i' =>
   have h1:=List.find?_some hb
   have h2:=List.mem_of_find?_eq_some hb
   have:=hinj i' i h2 hi (Nat.eq_of_beq_eq_true h1)
   rw [this]
 have hbackN:∀j i,back j=some i→i∈keys u0∧τ i=j:=fun j i hb=>⟨List.mem_of_find?_eq_some hb,Nat.eq_of_beq_eq_true (List.find?_some (p:=fun i=>Nat.beq (τ i) j) hb)⟩
 let ρ':am:=fun j=>match back j with|some i=>ρ1 i|none=>ρ j
 have hρ':∀i,i∈keys u0→ρ' (τ i)=ρ1 i:=fun i hi=>by simp only [ρ',hback i hi]
 have hO:∀b,OSet ρ0 (keys u0) b→OSet ρ (keys (renU τ u0++dG S)) b:=by
  rintro b ⟨i,hi,hb⟩
  have hiT:i∈liveK hp0:=by
   by_cases hiT:i∈liveK hp0
   ·exact hiT
   ·simp [ρ0,hiT] at hb
  exact⟨τ i,(hkeys _).2 (.inl ⟨i,hi,rfl⟩),by rw [← hρ0 i hiT];exact hb⟩
 have hρ0none:∀i,i∈keys u0→ρ (τ i)=none→ρ0 i=none:=by
  intro i hi hn
  by_cases hiT:i∈liveK hp0
  ·rw [hρ0 i hiT];exact hn
  ·simp [ρ0,hiT]
 have hSno:∀i,i∈keys u0→τ i∉S:=by
  intro i hi hS
  by_cases hiT:i∈liveK hp0
  ·exact (hblk i hiT).1 hS
  ·rcases hk.new i hi with h1|h1
   ·exact hiT h1
   ·have:=dW hk.lt hS;omega
 refine hK x ρ' F' w' ⟨fun j b hb=>?_,fun j h1 h2=>?_,fun j b h1 h2=>?_,Bv hρ' hp.rd hk.idv,⟨fun j k hjk=>?_,fun j j' b hj hj' h1 h2=>?_⟩,hp.fok,?_⟩
 ·cases hb':back j with
  | none=>simp only [ρ',hb'];exact hb
  | some i =>
   obtain⟨hi,rfl⟩:=hbackN j i hb'
   rw [hρ' i hi]
   have hiT:i∈liveK hp0:=by
    by_cases hiT:i∈liveK hp0
    ·exact hiT
    ·rw [hfr0 i hi hiT] at hb;cases hb
   exact hp.rho i b (by rw [hρ0 i hiT];exact hb)
 ·cases hb':back j with
  | none=>simp only [ρ',hb'] at h2;exact absurd h1 h2
  | some i =>
   obtain⟨hi,rfl⟩:=hbackN j i hb'
   exact (hkeys _).2 (.inl ⟨i,hi,rfl⟩)
 ·cases hb':back j with
  | none=>simp only [ρ',hb'] at h2;rw [h1] at h2;cases h2
  | some i =>
   obtain⟨hi,rfl⟩:=hbackN j i hb'
   rw [hρ' i hi] at h2
   rcases hp.blk i b (hρ0none i hi h1) h2 with h3|h3
   ·exact .inl h3
   ·exact .inr (hO b h3)
 ·obtain⟨hm,hjk⟩:=aJ hjk
  have hjk':∃i,i∈keys u0∧τ i=j:=by
   rcases List.mem_append.1 hm with h1|h1
   ·rcases List.mem_append.1 h1 with h2|h2
    ·obtain⟨i,hi,he⟩:=List.mem_map.1 h2
     exact⟨i,hf.sub i hi,he⟩
    ·exfalso
     have hjS:j∈keys (renU τ u0++dG S):=(hkeys j).2 (.inr h2)
     simp only [updH,if_pos hjS,co] at hjk
     have hn:j∉keys (renU τ u0):=by
      rw [g9]
      intro hm
      obtain⟨i,hi,he⟩:=List.mem_map.1 hm
      exact hSno i hi (he ▸ h2)
     simp only [updH,if_neg hn] at hjk
     have hdel:=oR S [] j
     simp only [List.append_nil] at hdel
     rw [hdel,if_pos h2] at hjk
     cases hjk
   ·rcases (hkeys j).1 h1 with h2|h2
    ·exact h2
    ·exfalso
     simp only [updH,if_pos h1,co] at hjk
     have hn:j∉keys (renU τ u0):=by
      rw [g9]
      intro hm
      obtain⟨i,hi,he⟩:=List.mem_map.1 hm
      exact hSno i hi (he ▸ h2)
     simp only [updH,if_neg hn] at hjk
     have hdel:=oR S [] j
     simp only [List.append_nil] at hdel
     rw [hdel,if_pos h2] at hjk
     cases hjk
  obtain⟨i,hi,rfl⟩:=hjk'
  have hk1:τ i∈keys (renU τ u0++dG S):=(hkeys _).2 (.inl ⟨i,hi,rfl⟩)
  have hk2:τ i∈keys (renU τ u0):=by rw [g9];exact List.mem_map.2 ⟨i,hi,rfl⟩
  simp only [updH,if_pos hk1,co,if_pos hk2] at hjk
  rw [uw hk.nd hi] at hjk
  obtain⟨b0,hb0,rfl⟩:=Option.map_eq_some_iff.1 hjk
  have hin0:restr (liveK hp0++keys u0) (updH u0 (hget hp0)) i=some b0:=by simp [restr,hi,updH,hb0]
  rcases hp.hp.ok i b0 hin0 with ⟨h3,h0⟩|⟨bb,hbb,ho⟩
  ·exact .inl ⟨by simp [h3,eG],by rw [hρ' i hi];exact h0⟩
  ·refine .inr ⟨bb,by rw [hρ' i hi];exact hbb,ho.view ho.own rfl (g8 _) (fun _ h=>h) (fun f hf' q c hq=>?_)⟩
   obtain⟨a',ha',rfl⟩:=g7 hq
   exact Bv hρ' (hf' q a' ha') (cQ (oQ hk.idu (eZ hb0)) ha')
 ·have key:∀(j b:Nat),restr (((liveK hp0).map τ++S)++keys (renU τ u0++dG S)) (updH (renU τ u0++dG S) (hget st.hp)) j≠none→∃i,i∈keys u0∧τ i=j∧restr (liveK hp0++keys u0) (updH u0 (hget hp0)) i≠none:=by
   intro j b hj
   obtain⟨k,hjk⟩:=Option.ne_none_iff_exists'.1 hj
   obtain⟨hm,hjk⟩:=aJ hjk
   have hjk':(∃i,i∈keys u0∧τ i=j)∨j∈S:=by
    rcases List.mem_append.1 hm with h1|h1
    ·rcases List.mem_append.1 h1 with h2|h2
     ·obtain⟨i,hi,he⟩:=List.mem_map.1 h2
      exact .inl ⟨i,hf.sub i hi,he⟩
     ·exact .inr h2
    ·exact (hkeys j).1 h1
   by_cases hjS:j∈S
   ·exfalso
    have h1:j∈keys (renU τ u0++dG S):=(hkeys j).2 (.inr hjS)
    simp only [updH,if_pos h1,co] at hjk
    have hn:j∉keys (renU τ u0):=by
     rw [g9]
     intro hm
     obtain⟨i,hi,he⟩:=List.mem_map.1 hm
     exact hSno i hi (he ▸ hjS)
    simp only [updH,if_neg hn] at hjk
    have hdel:=oR S [] j
    simp only [List.append_nil] at hdel
    rw [hdel,if_pos hjS] at hjk
    cases hjk
   ·rcases hjk' with ⟨i,hi,rfl⟩|h
    ·refine⟨i,hi,rfl,?_⟩
     have hk1:τ i∈keys (renU τ u0++dG S):=(hkeys _).2 (.inl ⟨i,hi,rfl⟩)
     have hk2:τ i∈keys (renU τ u0):=by rw [g9];exact List.mem_map.2 ⟨i,hi,rfl⟩
     simp only [updH,if_pos hk1,co,if_pos hk2] at hjk
     rw [uw hk.nd hi] at hjk
     obtain⟨b0,hb0,_⟩:=Option.map_eq_some_iff.1 hjk
     simp [restr,hi,updH,hb0]
    ·exact absurd h hjS
  obtain⟨i,hi,rfl,hi'⟩:=key j b hj
  obtain⟨i',hii,rfl,hi''⟩:=key j' b hj'
  rw [hρ' i hi] at h1
  rw [hρ' i' hii] at h2
  rw [hp.hp.inj i i' b hi' hi'' h1 h2]
 ·refine⟨hp.chg.os,hp.chg.tape,hp.chg.output,hp.chg.size,fun b hb hn=>hp.chg.same b hb (fun h=>hn (hO b h)),hp.chg.cells,fun b hb=>hp.chg.sub b (.inl hb),fun b hb=>?_⟩
  rcases hp.chg.new b hb with (h1|h1)|h1|h1
  ·exact .inl h1
  ·exact .inr (.inr (hOS b h1).2)
  ·exact .inr (.inl h1)
  ·exact .inr (.inr (hO b h1))
theorem wF (hp:List (Nat×Option Blk)):hget hp=restr (liveK hp) (hget hp):=by
 funext i
 unfold restr
 split
 ·rfl
 ·rename_i hi
  cases h:hget hp i with
  | none=>rfl
  | some b=>exact absurd (mn (eZ h)) hi
theorem Gr {f:FuncId} {fn:Func} {code:Code} {vs:List AV} {v:AV} {u:List (Nat×Option Blk)} {hp0:List (Nat×Option Blk)} {n:Nat} (nx0:Nat)
 (hf:P.funcs[f]?=some fn) (hb:fn.body=some code) (hname:(fn.name=="runtime.NumGoroutine")=false) (hn:fn.ntmps=n) (hlen:vs.length≤n)
 (hlt:ct nx0 (liveK hp0)=true) (hargs:an (liveK hp0) vs) (hids:bS (liveK hp0) hp0) (hT:∀i,i∈liveK hp0→i∈keys u)
 (haw:∀c:Ctx,c.P=P→(∀i,c.ρ0 i≠none→i∈liveK hp0)→(∀k st S σ,ut P fn.results.toList st v (liveK hp0) u S σ→SAW c (.code .ret::k) st∧SAW c [] st)→SAW c [.code code] ⟨n,mq 0 vs,hp0,nx0⟩):Con P f vs hp0 v u :=
 ⟨uu hf hb hname hn hlen (wF hp0) (fun i hi=>dW hlt hi) hargs hids hT (fun c hP h0 hfin=>haw c hP h0 (fun k st S σ he=>hfin k st S σ (hP ▸ he))),hargs,hids,hT⟩
theorem mr {α:Type} {c:Ctx} {body:Code} {k:List It} {st:AS} (Inv:α→AS) (μ:α→Nat) (x0:α) (S:List Nat) (σ:Nat→Nat) (hs:Sub S σ st (Inv x0)) (hσ:∀i,c.ρ0 i≠none→σ i=i)
 (hstep:∀x,SAW c (.code body :: .inv (fun st'=>∃y,μ y<μ x∧∃S σ,Sub S σ st' (Inv y)∧∀i,c.ρ0 i≠none→σ i=i)::k) (Inv x)):SAW c (.code (.loop body)::k) st :=
 Be Inv μ x0 (fun hc=>⟨_,_,hs.conc hσ hc⟩) hstep
theorem FPure.con {f:FuncId} {vs:List AV} {v:AV} (h:FPure P f vs v) (hi:an [] vs):Con P f vs [] v []:=⟨h _,hi,trivial,fun i hi=>by cases hi⟩
end Go.Abs

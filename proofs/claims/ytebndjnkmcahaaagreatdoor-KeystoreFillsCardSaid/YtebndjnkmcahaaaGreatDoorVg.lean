/- Contracts of maps.Keys and slices.Sorted for the vault's store, out of the shelf's. Own work; no statement of the seat is proved here. -/
import Derived.Test.YtebndjnkmcahaaaGreatDoorShelf
import Derived.Test.YtebndjnkmcahaaaGreatDoorVc
namespace Go.Proofs.YtebndjnkmcahaaaGreatDoor
set_option linter.unusedSimpArgs false
set_option linter.unusedVariables false
open Go Go.Abs Go.RowKit Go.Maps Go.Sort Go.Shelf
theorem nE:∀{l m:List Int},l.Perm m→l.Pairwise (·≤·)→m.Pairwise (·≤·)→l=m
 | [],m,h,_,_=>by simpa using h.symm.eq_nil
 | a::l,[],h,_,_=>by simpa using h.eq_nil
 | a::l,b::m,h,h1,h2=>by
  have ha:a∈b::m:=h.subset (by simp)
  have hb:b∈a::l:=h.symm.subset (by simp)
  have e:a=b:=by
   rcases List.mem_cons.1 ha with e|ha
   ·exact e
   ·rcases List.mem_cons.1 hb with e|hb
    ·exact e.symm
    ·have q1:=(List.pairwise_cons.1 h1).1 b hb
     have q2:=(List.pairwise_cons.1 h2).1 a ha
     omega
  subst e
  rw [nE ((List.perm_cons a).1 h) (List.pairwise_cons.1 h1).2 (List.pairwise_cons.1 h2).2]
theorem nF:∀E:List Ent,DataW.rising (entries E)=true→(E.map (·.1)).Pairwise (·≤·)
 | [],_=>by simp
 | [e],_=>by simp
 | e::e2::E,h=>by
  have h':(Lit.before (.int .i64 e.1) (.int .i64 e2.1)&&DataW.rising (entries (e2::E)))=true:=h
  simp only [Bool.and_eq_true,Lit.before,decide_eq_true_eq] at h'
  have ih:=nF (e2::E) h'.2
  simp only [List.map_cons] at ih ⊢
  refine List.pairwise_cons.2 ⟨fun x hx=>?_,ih⟩
  rcases List.mem_cons.1 hx with rfl|hx
  ·omega
  ·have:=(List.pairwise_cons.1 ih).1 x hx
   omega
theorem IT (m:Nat):AnyZI.SortsIn Tryz.prog Tryz.sortedA_ren Fence.wide m :=
 ⟨fun blk off cap ss W hH hblk hsz=>callsIn_wide.2 (AnyM.slices_Sort_int Tryz.sortA blk off cap ss W hH hblk hsz),
  fun p cap W=>callsIn_wide.2 (AnyM.slices_Sort_int_none Tryz.sortA p cap W)⟩
theorem tJ {w:World} {b0 b1:Nat} {F:aA} {s:ag} (hb1:b1<w.heap.size) (hm:w.cell? ⟨b1,0,none⟩=some (.map (some b0))) (hmap:MapIs F w b0 s) (hs:s.length<1000000000) :
 Calls Tryz.prog 159 #[.func (.func 206) #[] #[.pointer (some ⟨b1,0,none⟩)]] w fun e w'=>∃v,e = .returned v ∧
  w'.ownsRow w.heap.size 3 1 v s.length (s.map fun p => .int .i64 p.1)∧Below w.heap.size w w':=by
 obtain⟨hobj,E,hE,hown,hval⟩:=hmap
 have hint:Tryz.prog.underlying 3=some (.int .i64):=Tryz.underlying3
 have ho:=hown Tryz.prog 3 hint
 have hlen:s.length=E.length:=by rw [hE];simp [db]
 have hsize:Maps.size (DataW.map (entries E))=E.length:=by simp [Maps.size,entries]
 have hkeys:intKeys (DataW.map (entries E))=E.map (·.1):=by
  unfold entries
  simp only [intKeys,List.map_map]
  rfl
 have hrise:DataW.rising (entries E)=true:=by
  obtain⟨es,clock,hh,hF,_,hD⟩:=ho
  simp only [DataW.map.injEq] at hD
  rw [hD]
  exact fit_rising (int_keyed hint) hF
 refine (callsIn_wide (n:=6)).1 ?_
 have hseq:SeqGives Fence.wide 2 Tryz.prog 206 #[.pointer (some ⟨b1,0,none⟩)] encZ (fun ss=>ss.Perm (intKeys (DataW.map (entries E)))) (Maps.size (DataW.map (entries E))) w :=
  AnyZI.keys_gives (ρ:=Tryz.keysA_ren) { Tryz.keysA with } Fence.wide _ trivial rfl (by omega) b1 b0 E.length (DataW.map (entries E)) w hb1 hm ho
 have cS:=AnyZI.sorted_in Tryz.sortedA Fence.wide 5 trivial trivial trivial trivial rfl (by omega) (IT _) (enters_of Tryz.func205 (by kernel_rfl) rfl) 206 #[.pointer (some ⟨b1,0,none⟩)] trivial (enters_of Tryz.func206 (by kernel_rfl) rfl) _ _ (by rw [hsize];have:maxLen=9223372036854775807:=rfl;omega) (by rw [hsize];omega) _ hseq
 change CallsIn _ _ Tryz.prog 159 _ _ _ at cS
 refine (callsIn_wide (n:=6)).2 ((callsIn_wide (n:=5)).1 cS |>.mono ?_)
 rintro e w' ⟨v,ss,rfl,hS,hrow,hnil,hb⟩
 refine⟨v,rfl,?_,hb⟩
 rw [hkeys] at hS
 have hsort:ss.mergeSort (fun x y=>decide (x≤y))=E.map (·.1):=by
  refine nE ((List.mergeSort_perm ss _).trans hS) ?_ (nF E hrise)
  have:=List.pairwise_mergeSort (le:=fun x y:Int=>decide (x≤y)) (by simp;omega) (by simp;omega) ss
  simpa using this
 have hl2:ss.length=s.length:=by rw [hS.length_eq,hlen];simp
 rw [hsort,hl2] at hrow
 have:(E.map (·.1)).map encZ=s.map fun p => .int .i64 p.1:=by rw [hE];simp [db]
 rw [this] at hrow
 exact hrow
abbrev fH:Nat:=152
theorem IU (s:ag):Con Tryz.prog 160 [.mp 0] [(0,some ⟨cJ s,[]⟩)] (.fn (.func 206) [] [.ptr 1 0]) [(0,some ⟨cJ s,[]⟩),(1,some ⟨fH,[.mp 0]⟩)]:=by
 refine F1 1 De Tryz.func160 rfl (by kernel_rfl) Tryz.ntmps160 Tryz.results160 (by simp) rfl (by simp [an,ax,liveK]) (by simp [bS,an]) (fun i hi=>by simp [liveK] at hi;simp [keys,hi]) [0,1,2] ?_
 intro c hP h0 hE
 simp only [go_sem,hP]
 refine aB [0,1] rfl ?_ ?_ rfl rfl (fun i hi=>?_) (fun i hi=>?_)
 ·simp only [go_sem]
 ·simp only [go_sem]
 ·simp at hi;subst hi;exact⟨rfl,by simp [keys]⟩
 ·simp [liveK] at hi;simp;omega
theorem Dr (s:ag) (hs:s.length<1000000000):Con Tryz.prog 159 [.fn (.func 206) [] [.ptr 1 0]] [(0,some ⟨cJ s,[]⟩),(1,some ⟨fH,[.mp 0]⟩)] (.sl 2 0 s.length 1)
 [(0,some ⟨cJ s,[]⟩),(1,some ⟨fH,[.mp 0]⟩),(2,some ⟨3,(s.map fun p => .p (.v (.int .i64 p.1)))⟩)] where
 call:={
  tri:=by
   intro ρ F us w hpre hz hr
   have hu:=hr 0 _ rfl
   obtain⟨u,rfl⟩:∃u,us=#[u]:=by
    have hz:us.size=1:=hz
    obtain⟨l⟩:=us
    match l,hz with
    | [u],_=>exact⟨u,rfl⟩
   have hu:Rd ρ F w (.fn (.func 206) [] [.ptr 1 0]) u:=hu
   cases hu with
   | fn _ _ _ us1 vs1 hl1 hr1 hl2 hr2 =>
    obtain rfl:us1=#[]:=by simpa using hl1
    have hp1:=hr2 0 _ rfl
    obtain⟨x,rfl⟩:∃x,vs1=#[x]:=by
     have hz:vs1.size=1:=hl2
     obtain⟨l⟩:=vs1
     match l,hz with
     | [x],_=>exact⟨x,rfl⟩
    have hp1:Rd ρ F w (.ptr 1 0) x:=hp1
    obtain⟨b1,hb1,rfl⟩:=hp1.ptrInv
    have hT:liveK [(0,some (⟨cJ s,[]⟩:Blk)),(1,some ⟨fH,[.mp 0]⟩)]=[0,1]:=rfl
    have hH:=hpre.hp
    have h1:restr (liveK [(0,some (⟨cJ s,[]⟩:Blk)),(1,some ⟨fH,[.mp 0]⟩)]) (hget [(0,some ⟨cJ s,[]⟩),(1,some ⟨fH,[.mp 0]⟩)]) 1=some ⟨fH,[.mp 0]⟩:=rfl
    have h0:restr (liveK [(0,some (⟨cJ s,[]⟩:Blk)),(1,some ⟨fH,[.mp 0]⟩)]) (hget [(0,some ⟨cJ s,[]⟩),(1,some ⟨fH,[.mp 0]⟩)]) 0=some ⟨cJ s,[]⟩:=rfl
    rcases hH.ok 1 _ h1 with ⟨hnil,_⟩|⟨b1',hb1',hblk1⟩
    ·cases hnil
    rw [hb1] at hb1';cases hb1'
    obtain⟨arr,fr,ha,hfr,hlen,hc⟩:=hblk1.is (.inl (by simp))
    have hcell:=(hc 0 _ rfl).2
    obtain⟨b0,hb0,hv0,hobj⟩:=hcell.mpInv
    rcases hH.ok 0 _ h0 with ⟨_,hn0⟩|⟨b0',hb0',hblk0⟩
    ·rw [hn0] at hb0;cases hb0
    rw [hb0] at hb0';cases hb0'
    obtain⟨_,hmap⟩:=jU hblk0 hobj
    have hmap:MapIs F w b0 s:=by simpa only [oC] using hmap
    have hlt1:b1<w.heap.size:=hblk1.lt
    have hlt0:b0<w.heap.size:=hblk0.lt
    have hcl:w.cell? ⟨b1,0,none⟩=some (.map (some b0)):=by
     rw [← hv0];exact gF ha (by simp at hlen;omega)
    refine .inl ⟨iG Tryz.func159 rfl (by kernel_rfl) _ w,Calls.mono (R:=fun e w'=>∃x ρ' F',e = .returned x∧Post ρ F w _ _ _ _ x ρ' F' w') ?_ (fun e w' ⟨x,ρ',F',he,hp⟩=>⟨x,he,ρ',F',hp⟩)⟩
    refine (tJ hlt1 hcl hmap hs).mono ?_
    rintro e w' ⟨v,rfl,hrow,hbel⟩
    have hρ2:ρ 2=none:=hpre.fresh 2 (by simp [keys]) (by rw [hT];simp)
    have hFw:∀b,F b→w'.heap[b]?=w.heap[b]?:=fun b hb=>hbel.block b (hpre.fok b hb)
    have hchg:∀O,Chg O F F w w':=fun O=>⟨hbel.os,hbel.tape,hbel.output,hbel.size,fun b hb _=>hbel.block b hb,⟨fun b n hcl=>by
     obtain⟨ar,t',fr,hb,hn⟩:=hcl
     exact⟨ar,t',fr,(hbel.block b (Array.getElem?_eq_some_iff.1 hb).1).trans hb,hn⟩,fun b hm=>by
     have hlt:=hm.lt
     obtain⟨es,c,hb⟩:=hm
     exact⟨es,c,(hbel.block b hlt).trans hb⟩⟩,fun _ h=>h,fun _ h => .inl h⟩
    have hkp:∀{ρ':am},(∀i b,ρ i=some b→ρ' i=some b)→∀{c:AV} {u:Value},Rd ρ F w c u→Rd ρ' F w' c u:=fun h _ _ hr=>hr.mono h (fun _ h=>h) hFw (hchg (fun _=>False)).cells
    have hk0:∀{ρ':am},(∀i b,ρ i=some b→ρ' i=some b)→BlkOk ρ' F w' b0 ⟨cJ s,[]⟩:=fun h=>hblk0.keep hblk0.own (hbel.block b0 hlt0) (fun _ h=>h) hFw (fun c u _ hr=>hkp h hr)
    have hk1:∀{ρ':am},(∀i b,ρ i=some b→ρ' i=some b)→BlkOk ρ' F w' b1 ⟨fH,[.mp 0]⟩:=fun h=>hblk1.keep hblk1.own (hbel.block b1 hlt1) (fun _ h=>h) hFw (fun c u _ hr=>hkp h hr)
    have hne:b0≠b1:=fun e=>by
     have:=hH.inj 0 1 b0 (by rw [h0];simp) (by rw [h1];simp) hb0 (by rw [e];exact hb1)
     omega
    have hfok:FOk F w':=fun b hb=>Nat.lt_of_lt_of_le (hpre.fok b hb) hbel.size
    obtain⟨_,hrow⟩:=hrow
    have hids:∀(u2:Option Blk) (i:Nat) (k:Blk),restr ([0,1]++keys [(0,some (⟨cJ s,[]⟩:Blk)),(1,some ⟨fH,[.mp 0]⟩),(2,u2)]) (updH [(0,some ⟨cJ s,[]⟩),(1,some ⟨fH,[.mp 0]⟩),(2,u2)] (hget [(0,some ⟨cJ s,[]⟩),(1,some ⟨fH,[.mp 0]⟩)])) i=some k →
     (i=0∧k=⟨cJ s,[]⟩)∨(i=1∧k=⟨fH,[.mp 0]⟩)∨(i=2∧u2=some k):=fun u2 i k h=>by
     obtain⟨hm,h⟩:=aJ h
     have hi:i=0∨i=1∨i=2:=by simp [keys] at hm;omega
     rcases hi with rfl|rfl|rfl
     ·simp [updH,keys,hget] at h;exact .inl ⟨rfl,h.symm⟩
     ·simp [updH,keys,hget] at h;exact .inr (.inl ⟨rfl,h.symm⟩)
     ·simp [updH,keys,hget] at h;exact .inr (.inr ⟨rfl,h⟩)
    rcases hrow with ⟨rfl,hn0⟩|⟨g,cap,cur,rfl,hg,hcur,hcap,hmx,hcsz,htk⟩
    ·have hs0:s=[]:=List.eq_nil_of_length_eq_zero hn0
     subst hs0
     refine⟨_,ρ,F,rfl,fun _ _ h=>h,fun i h1 h2=>absurd h1 h2,fun i b h1 h2=>(by rw [h1] at h2;cases h2),.slz _ _ _ _,⟨fun i k hk=>?_,fun i j b hi hj hbi hbj=>?_⟩,hfok,hchg _⟩
     ·rcases hids _ i k hk with ⟨rfl,rfl⟩|⟨rfl,rfl⟩|⟨rfl,hk⟩
      ·exact .inr ⟨b0,hb0,hk0 (fun _ _ h=>h)⟩
      ·exact .inr ⟨b1,hb1,hk1 (fun _ _ h=>h)⟩
      ·cases hk;exact .inl ⟨rfl,hρ2⟩
     ·obtain⟨ki,hki⟩:=Option.ne_none_iff_exists'.1 hi
      obtain⟨kj,hkj⟩:=Option.ne_none_iff_exists'.1 hj
      rcases hids _ i ki hki with ⟨rfl,_⟩|⟨rfl,_⟩|⟨rfl,_⟩<;>rcases hids _ j kj hkj with ⟨rfl,_⟩|⟨rfl,_⟩|⟨rfl,_⟩<;>first
       | rfl
       | (rw [hρ2] at hbi;cases hbi;done)
       | (rw [hρ2] at hbj;cases hbj;done)
       | (rw [hb0] at hbi;rw [hb1] at hbj;cases hbi;cases hbj;exact absurd rfl hne)
       | (rw [hb1] at hbi;rw [hb0] at hbj;cases hbi;cases hbj;exact absurd rfl hne)
    ·have hrho:∀i b,ρ i=some b→c5 ρ 2 g i=some b:=fun i b hb=>by
      unfold c5;split
      ·subst_vars;rw [hρ2] at hb;cases hb
      ·exact hb
     have hr0:c5 ρ 2 g 0=some b0:=hrho _ _ hb0
     have hr1:c5 ρ 2 g 1=some b1:=hrho _ _ hb1
     have hr2:c5 ρ 2 g 2=some g:=by simp [c5]
     refine⟨_,c5 ρ 2 g,F,rfl,hrho,fun i h1 h2=>?_,fun i b h1 h2=>?_,.sl _ _ _ _ g cap hr2 hcap ⟨cur,_,_,hcur,by omega⟩,⟨fun i k hk=>?_,fun i j b hi hj hbi hbj=>?_⟩,hfok,hchg _⟩
     ·unfold c5 at h2;split at h2
      ·subst_vars;simp [keys]
      ·exact absurd h1 h2
     ·unfold c5 at h2;split at h2
      ·cases h2;exact .inl hg
      ·rw [h1] at h2;cases h2
     ·rcases hids _ i k hk with ⟨rfl,rfl⟩|⟨rfl,rfl⟩|⟨rfl,hk⟩
      ·exact .inr ⟨b0,hr0,hk0 hrho⟩
      ·exact .inr ⟨b1,hr1,hk1 hrho⟩
      ·cases hk
       refine .inr ⟨g,hr2,⟨fun hF=>by have:=hpre.fok g hF;omega,.inl ⟨cur,_,hcur,.zero _,by simp;omega,fun j c hj=>?_⟩⟩⟩
       simp only [List.getElem?_map,Option.map_eq_some_iff] at hj
       obtain⟨q,hq,rfl⟩:=hj
       have hjl:j<s.length:=(List.getElem?_eq_some_iff.1 hq).1
       have hcj:cur.toList[j]?=some (.int .i64 q.1):=by
        have:(cur.toList.take (s.length*1))[j]?=some (.int .i64 q.1):=by rw [htk];simp [hq]
        rw [List.getElem?_take] at this
        rw [if_pos (by omega)] at this
        exact this
       have hcd:cur.getD j undef = .int .i64 q.1:=by
        have:cur[j]?=some (.int .i64 q.1):=by simpa using hcj
        simp [Array.getD_eq_getD_getElem?,this]
       rw [hcd]
       exact⟨rfl,.p _ _ (.v _ rfl)⟩
     ·obtain⟨ki,hki⟩:=Option.ne_none_iff_exists'.1 hi
      obtain⟨kj,hkj⟩:=Option.ne_none_iff_exists'.1 hj
      rcases hids _ i ki hki with ⟨rfl,_⟩|⟨rfl,_⟩|⟨rfl,_⟩<;>rcases hids _ j kj hkj with ⟨rfl,_⟩|⟨rfl,_⟩|⟨rfl,_⟩<;>first
       | rfl
       | (rw [hr0] at hbi;rw [hr1] at hbj;cases hbi;cases hbj;exact absurd rfl hne)
       | (rw [hr1] at hbi;rw [hr0] at hbj;cases hbi;cases hbj;exact absurd rfl hne)
       | (rw [hr0] at hbi;rw [hr2] at hbj;cases hbi;cases hbj;omega)
       | (rw [hr1] at hbi;rw [hr2] at hbj;cases hbi;cases hbj;omega)
       | (rw [hr2] at hbi;rw [hr0] at hbj;cases hbi;cases hbj;omega)
       | (rw [hr2] at hbi;rw [hr1] at hbj;cases hbi;cases hbj;omega) }
 ids:=by simp [an,ax,liveK]
 idh:=by simp [bS,an,ax,liveK]
 sub i hi:=by simp [liveK] at hi;simp [keys];omega
end Go.Proofs.YtebndjnkmcahaaaGreatDoor

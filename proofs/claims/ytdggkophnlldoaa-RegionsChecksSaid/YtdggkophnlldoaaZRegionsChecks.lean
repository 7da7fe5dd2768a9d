/- The walk of the law RegionsChecks. -/

